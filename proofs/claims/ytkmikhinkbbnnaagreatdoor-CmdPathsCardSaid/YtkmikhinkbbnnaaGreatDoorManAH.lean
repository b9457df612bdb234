/- Package addr: a path, by hand. -/
import Derived.Test.YtkmikhinkbbnnaaGreatDoorManAG
import Derived.Deep.MidRow
namespace Go.Proofs.YtkmikhinkbbnnaaGreatDoor.M
open Go.RowKit Go.Proofs.YtkmikhinkbbnnaaGreatDoor.Sp
attribute [local go_sem ↓] Go.wp_at_zero Go.wp_at_succ

/-- The address's block. -/
structure Ad (w : World) (g : Nat) (t u : ByteArray) : Prop where
  c0 : w.cell? ⟨g, 0, none⟩ = some (.string t)
  c1 : w.cell? ⟨g, 1, none⟩ = some (.string u)
  f0 : w.frozen? ⟨g, 0, none⟩ = false
  f1 : w.frozen? ⟨g, 1, none⟩ = false
theorem Ad.lt {w : World} {g : Nat} {t u : ByteArray} (h : Ad w g t u) : g < w.heap.size := World.block_lt_of_cell? w _ h.c0
theorem But.frozen {g : Nat} {w w' : World} (h : But g w w') {p : Addr} (hp : p.block < w.heap.size) (hn : p.block ≠ g) : w'.frozen? p = w.frozen? p := World.frozen?_of_block (w := w) (h.block p.block hp hn)
theorem Ad.but {w w' : World} {g g' : Nat} {t u : ByteArray} (h : Ad w g t u) (hb : But g' w w') (hg : g ≠ g') : Ad w' g t u :=
  ⟨(hb.cell h.lt hg).trans h.c0, (hb.cell h.lt hg).trans h.c1, (hb.frozen h.lt hg).trans h.f0, (hb.frozen h.lt hg).trans h.f1⟩
theorem Ad.below {w w' : World} {g : Nat} {t u : ByteArray} (h : Ad w g t u) (hb : Below w.heap.size w w') : Ad w' g t u :=
  ⟨(hb.cell h.lt).trans h.c0, (hb.cell h.lt).trans h.c1, (hb.frozen h.lt).trans h.f0, (hb.frozen h.lt).trans h.f1⟩
theorem Ad.other {w : World} {g : Nat} {t u : ByteArray} (h : Ad w g t u) (g' : Nat) (hg : g ≠ g') (o : Nat) (v : Value) : Ad (w.setCell ⟨g', o, none⟩ v) g t u := h.but (But.set w o v) hg
theorem Ad.set0 {w : World} {g : Nat} {t u : ByteArray} (h : Ad w g t u) (v : ByteArray) : Ad (w.setCell ⟨g, 0, none⟩ (.string v)) g v u :=
  ⟨by rw [World.cell?_setCell_same w _ _ h.c0], by rw [World.cell?_setCell_other w _ _ _ (by simp), h.c1], by rw [World.frozen?_setCell]; exact h.f0, by rw [World.frozen?_setCell]; exact h.f1⟩
theorem Ad.set1 {w : World} {g : Nat} {t u : ByteArray} (h : Ad w g t u) (v : ByteArray) : Ad (w.setCell ⟨g, 1, none⟩ (.string v)) g t v :=
  ⟨by rw [World.cell?_setCell_other w _ _ _ (by simp), h.c0], by rw [World.cell?_setCell_same w _ _ h.c1], by rw [World.frozen?_setCell]; exact h.f0, by rw [World.frozen?_setCell]; exact h.f1⟩
theorem frozen_new {w : World} {cs : Array Value} {t : TypeId} (j : Nat) : (w.alloc (.cells cs t)).frozen? ⟨w.heap.size, j, none⟩ = false := by
  unfold World.frozen?
  have e : (w.alloc (.cells cs t)).heap[w.heap.size]? = some (.cells cs t) := by show (w.heap.push _)[w.heap.size]? = _; simp
  rw [e]
  simp
theorem addr_new {w w' : World} {t : TypeId} (hb : Below (w.alloc (.cells #[.string ⟨#[]⟩, .string ⟨#[]⟩] t)).heap.size (w.alloc (.cells #[.string ⟨#[]⟩, .string ⟨#[]⟩] t)) w') : Ad w' w.heap.size ⟨#[]⟩ ⟨#[]⟩ :=
  ⟨cellNew hb 0 rfl, cellNew hb 1 rfl, (hb.frozen (by show w.heap.size < (w.heap.push _).size; simp)).trans (frozen_new 0), (hb.frozen (by show w.heap.size < (w.heap.push _).size; simp)).trans (frozen_new 1)⟩
theorem sc_new (w : World) (s : ByteArray) : Sc (w.alloc (.cells #[.string s, .int .i64 0, .bool false] 156)) w.heap.size s 0 false :=
  ⟨by rw [World.cell?_alloc_new]; rfl, by rw [World.cell?_alloc_new]; rfl, by rw [World.cell?_alloc_new]; rfl, frozen_new 1, frozen_new 2⟩
theorem sc_new2 (w : World) (s : ByteArray) (o : Obj) : Sc ((w.alloc o).alloc (.cells #[.string s, .int .i64 0, .bool false] 156)) (w.heap.size + 1) s 0 false := by
  have h := sc_new (w.alloc o) s
  rwa [show (w.alloc o).heap.size = w.heap.size + 1 by simp] at h
theorem res_new {w : World} {t : TypeId} {o : Obj} : Ad ((w.alloc (.cells #[.string ⟨#[]⟩, .string ⟨#[]⟩] t)).alloc o) w.heap.size ⟨#[]⟩ ⟨#[]⟩ := addr_new (belowA (Below.refl _ _) o)
theorem sc_alloc {w : World} {g : Nat} {s : ByteArray} {i : Nat} {b : Bool} (h : Sc w g s i b) (o : Obj) : Sc (w.alloc o) g s i b := h.below (belowA (Below.refl _ _) o)

abbrev CoreT := Option (List UInt8 × List UInt8 × List UInt8)
theorem core_bad {b b5 : Bool} {c : CoreT} {v : List UInt8 × List UInt8 × List UInt8} {P : Prop} (h : b = true ∨ c = none) (k : (b5 = true ∧ (b = true ∨ c = none)) ∨ (b5 = false ∧ b = false ∧ c = some v ∧ P)) : b5 = true := by
  rcases k with ⟨k, _⟩ | ⟨_, k1, k2, _⟩
  · exact k
  · rcases h with h | h
    · rw [k1] at h; cases h
    · rw [k2] at h; cases h
theorem core_ok {b b5 : Bool} {c : CoreT} {s t u : ByteArray} {lo d r q : List UInt8} (h : b = false ∧ c = some (lo, d, r)) (k : (b5 = true ∧ (b = true ∨ c = none)) ∨ (b5 = false ∧ b = false ∧ c = some (t.data.toList, u.data.toList, q) ∧ t.size ≤ s.size ∧ u.size ≤ s.size)) :
    b5 = false ∧ t.data.toList = lo ∧ u.data.toList = d ∧ q = r ∧ t.size ≤ s.size ∧ u.size ≤ s.size := by
  rcases k with ⟨_, k⟩ | ⟨k0, _, k2, k3⟩
  · rcases k with k | k
    · rw [h.1] at k; cases k
    · rw [h.2] at k; cases k
  · rw [h.2] at k2
    simp only [Option.some.injEq, Prod.mk.injEq] at k2
    exact ⟨k0, k2.1.symm, k2.2.1.symm, k2.2.2.symm, k3⟩

theorem load2 {w : World} {g : Nat} {ty : TypeId} {v0 v1 : Value} {d : TypeDesc} (h0 : w.cell? ⟨g, 0, none⟩ = some v0) (h1 : w.cell? ⟨g, 1, none⟩ = some v1) (hu : Tryz.prog.underlying ty = some d) (hd : d.isRow = true) (hi : (Tryz.prog.info? ty).map (·.size) = some 2) :
    (loadVar ty ⟨g, 0, none⟩).run Tryz.prog w = .ok (.agg #[v0, v1]) w := by
  refine run_loadVar_mid w g 0 ty [v0, v1] d (fun j v hv => ?_) hu hd hi
  match j, hv with
  | 0, hv => simp at hv; subst hv; simpa using h0
  | 1, hv => simp at hv; subst hv; simpa using h1
theorem results_ctt {fn : Func} {p u v : Tmp} {ty : TypeId} (h : fn.results = #[.cell p ty, .tmp u, .tmp v]) (tmps : Array Value) (w : World) (g : Nat) (v0 v1 : Value) (d : TypeDesc)
    (hp : tmps.getD p undef = .pointer (some ⟨g, 0, none⟩)) (h0 : w.cell? ⟨g, 0, none⟩ = some v0) (h1 : w.cell? ⟨g, 1, none⟩ = some v1) (hu : Tryz.prog.underlying ty = some d) (hd : d.isRow = true) (hi : (Tryz.prog.info? ty).map (·.size) = some 2) :
    (results fn tmps).run Tryz.prog w = .ok (.tuple #[.agg #[v0, v1], tmps.getD u undef, tmps.getD v undef]) w := by
  have hp' : tmps[p]?.getD undef = .pointer (some ⟨g, 0, none⟩) := by simpa using hp
  simp [results, h, hp', asAddr, load2 h0 h1 hu hd hi]

/-- What a path comes to, as results. -/
def pathV (p : List UInt8 × List UInt8 × List UInt8 × Int) : Value := .tuple #[.agg #[.string ⟨p.1.toArray⟩, .string ⟨p.2.1.toArray⟩], .string ⟨p.2.2.1.toArray⟩, .int .i64 p.2.2.2]

set_option maxHeartbeats 8000000 in
set_option maxRecDepth 100000 in
theorem path_bad (s : ByteArray) (hs : s.size ≤ 2000000000) (w : World) (hGL : GL w) (j1 : Nat) (b1 : Bool) (hj1 : j1 ≤ s.size)
    (cw1 : ∀ g W, Sc W g s 0 false → Calls Tryz.prog 142 #[.pointer (some ⟨g, 0, none⟩), .int .u8 60] W fun e w' => e = .returned (.tuple #[]) ∧ But g W w' ∧ Sc w' g s j1 b1)
    (ct1 : ∀ g W, Sc W g s j1 b1 → Calls Tryz.prog 143 #[.pointer (some ⟨g, 0, none⟩), .int .u8 62] W fun e w' => e = .returned (.bool false) ∧ Below W.heap.size W w')
    (hcore : Hid (b1 = true ∨ coreO (s.data.toList.drop j1) = none)) :
    Calls Tryz.prog 106 #[.string s] w fun e w' => e = .returned (pathV ([], [], [], 3)) ∧ Below w.heap.size w w' := by
  have hs' : s.size ≤ 4000000000 := by omega
  have hs := hs'
  clear hs'
  go_enter Tryz.func106, Tryz.ntmps106
  go_wp2_with (first | (go_at_call_of 142 (Value.int IntKind.u8 60); refine (cw1 (w.heap.size + 1) _ (sc_new2 w s _)).mono ?_; rintro e w1 ⟨rfl, HBa, HSa⟩; have S1 := Lib.hid HSa; have B1 := Lib.hid (But.below (belowA (belowA (Below.refl _ _) _) _) HBa (Nat.le_succ _)); have hga : w.heap.size + 1 < w1.heap.size := HSa.lt; have Z1 := Lib.hid (res_new.but HBa (Nat.ne_of_lt (Nat.lt_succ_self _))); clear HSa) | (go_at_call_of 143 (Value.int IntKind.u8 62); refine (ct1 (w.heap.size + 1) _ (sc_alloc S1.out _)).mono ?_; rintro e w2 ⟨rfl, HBb⟩; have S2 := Lib.hid ((sc_alloc S1.out _).below HBb); have B2 := Lib.hid (belowT (belowA B1.out _) HBb); have A2 := Lib.hid (addr_new (t := 23) HBb); have Z2 := Lib.hid ((Z1.out.below (belowA (Below.refl _ _) _)).below HBb)) | (go_at_call 144; refine (route_gen s (w.heap.size + 1) j1 b1 _ S2.out hs hj1 (gb_of hGL B2.out (Nat.le_succ _))).mono ?_; rintro e w3 ⟨rfl, HBc, j2, b2, hj2, HSc, P1⟩; have S3 := Lib.hid HSc; have B3 := Lib.hid (But.below B2.out HBc (Nat.le_succ _)); have A3 := Lib.hid (A2.out.but HBc (Nat.ne_of_gt hga)); have Z3 := Lib.hid (Z2.out.but HBc (Nat.ne_of_lt (Nat.lt_succ_self _))); have R1 := Lib.hid P1; clear P1 HSc) | (go_at_call 145; refine (local_gen s (w.heap.size + 1) j2 b2 _ S3.out hs hj2 (gb_of hGL B3.out (Nat.le_succ _))).mono ?_; rintro e w4 ⟨HBd, t, j3, b3, rfl, hj3, HSd, P2⟩; have S4 := Lib.hid ((HSd.step (Below.setCell (Below.refl w1.heap.size _) (p := ⟨w1.heap.size, 0, none⟩) (Nat.le_refl _) (.string t)) hga)); have B4 := Lib.hid ((But.below B3.out HBd (Nat.le_succ _)).setCell (p := ⟨w1.heap.size, 0, none⟩) (by show w.heap.size ≤ w1.heap.size; omega) (.string t)); have A4 := Lib.hid ((A3.out.but HBd (Nat.ne_of_gt hga)).set0 t); have Z4 := Lib.hid ((Z3.out.but HBd (Nat.ne_of_lt (Nat.lt_succ_self _))).other w1.heap.size (by omega) 0 (.string t)); obtain ⟨a40, a41, a42, a43⟩ := (A3.out.but HBd (Nat.ne_of_gt hga)); have R2 := Lib.hid P2; clear P2 HSd) | (go_at_call_of 142 (Value.int IntKind.u8 64); refine (want_gen s (w.heap.size + 1) j3 b3 _ S4.out hs hj3 64 64 (by decide) (by decide)).mono ?_; rintro e w5 ⟨rfl, HBe, j4, b4, hj4, HSe, P3⟩; have S5 := Lib.hid HSe; have B5 := Lib.hid (But.below B4.out HBe (Nat.le_succ _)); have A5 := Lib.hid (A4.out.but HBe (Nat.ne_of_gt hga)); have Z5 := Lib.hid (Z4.out.but HBe (Nat.ne_of_lt (Nat.lt_succ_self _))); have R3 := Lib.hid P3; clear P3 HSe) | (go_at_call 146; refine (domain_gen s (w.heap.size + 1) j4 b4 _ S5.out hs hj4 (gb_of hGL B5.out (Nat.le_succ _))).mono ?_; rintro e w6 ⟨HBf, u, j5, b5, rfl, hj5, HSf, P4⟩; have S6 := Lib.hid ((HSf.step (Below.setCell (Below.refl w1.heap.size _) (p := ⟨w1.heap.size, 1, none⟩) (Nat.le_refl _) (.string u)) hga)); have B6 := Lib.hid ((But.below B5.out HBf (Nat.le_succ _)).setCell (p := ⟨w1.heap.size, 1, none⟩) (by show w.heap.size ≤ w1.heap.size; omega) (.string u)); have A6 := Lib.hid ((A5.out.but HBf (Nat.ne_of_gt hga)).set1 u); have Z6 := Lib.hid ((Z5.out.but HBf (Nat.ne_of_lt (Nat.lt_succ_self _))).other w1.heap.size (by omega) 1 (.string u)); obtain ⟨a60, a61, a62, a63⟩ := (A5.out.but HBf (Nat.ne_of_gt hga)); have R4 := Lib.hid P4; clear P4 HSf) | (go_at_call_of 142 (Value.int IntKind.u8 62); refine (want_gen s (w.heap.size + 1) j5 b5 _ S6.out hs hj5 62 62 (by decide) (by decide)).mono ?_; rintro e w7 ⟨rfl, HBg, j6, b6, hj6, HSg, P5⟩; have S7 := Lib.hid HSg; have B7 := Lib.hid (But.below B6.out HBg (Nat.le_succ _)); have A7 := Lib.hid (A6.out.but HBg (Nat.ne_of_gt hga)); have Z7 := Lib.hid (Z6.out.but HBg (Nat.ne_of_lt (Nat.lt_succ_self _))); have R5 := Lib.hid P5; clear P5 HSg; have hb6 : b6 = true := core_bad hcore.out (core_steps hj1 hj3 R1.out R2.out R3.out R4.out R5.out hj2); subst hb6; obtain ⟨s70, s71, s72, s73, s74⟩ := S7.out; obtain ⟨a70, a71, a72, a73⟩ := A7.out; obtain ⟨z70, z71, z72, z73⟩ := Z7.out))
  (try simp only [Exit.inBlock, Exit.then])
  refine bodyPost_ret (results_ctt rfl _ _ w.heap.size _ _ _ rfl (((Z7.out.set0 _).set1 _).c0) (((Z7.out.set0 _).set1 _).c1) Tryz.underlying23 rfl (by kernel_rfl)) rfl ?_
  refine ⟨?_, (B7.out.setCell (p := ⟨w.heap.size, 0, none⟩) (Nat.le_refl _) _).setCell (p := ⟨w.heap.size, 1, none⟩) (Nat.le_refl _) _⟩
  rfl

set_option maxHeartbeats 8000000 in
set_option maxRecDepth 100000 in
theorem path_long (s : ByteArray) (hs : s.size ≤ 2000000000) (w : World) (hGL : GL w) (j1 : Nat) (b1 : Bool) (hj1 : j1 ≤ s.size)
    (cw1 : ∀ g W, Sc W g s 0 false → Calls Tryz.prog 142 #[.pointer (some ⟨g, 0, none⟩), .int .u8 60] W fun e w' => e = .returned (.tuple #[]) ∧ But g W w' ∧ Sc w' g s j1 b1)
    (ct1 : ∀ g W, Sc W g s j1 b1 → Calls Tryz.prog 143 #[.pointer (some ⟨g, 0, none⟩), .int .u8 62] W fun e w' => e = .returned (.bool false) ∧ Below W.heap.size W w')
    (lo d r : List UInt8) (hcore : Hid (b1 = false ∧ coreO (s.data.toList.drop j1) = some (lo, d, r))) (hright : Hid (rightB lo d = false)) :
    Calls Tryz.prog 106 #[.string s] w fun e w' => e = .returned (pathV ([], [], [], 5)) ∧ Below w.heap.size w w' := by
  have hs' : s.size ≤ 4000000000 := by omega
  have hs := hs'
  clear hs'
  go_enter Tryz.func106, Tryz.ntmps106
  go_wp2_with (first | (go_at_call_of 142 (Value.int IntKind.u8 60); refine (cw1 (w.heap.size + 1) _ (sc_new2 w s _)).mono ?_; rintro e w1 ⟨rfl, HBa, HSa⟩; have S1 := Lib.hid HSa; have B1 := Lib.hid (But.below (belowA (belowA (Below.refl _ _) _) _) HBa (Nat.le_succ _)); have hga : w.heap.size + 1 < w1.heap.size := HSa.lt; have Z1 := Lib.hid (res_new.but HBa (Nat.ne_of_lt (Nat.lt_succ_self _))); clear HSa) | (go_at_call_of 143 (Value.int IntKind.u8 62); refine (ct1 (w.heap.size + 1) _ (sc_alloc S1.out _)).mono ?_; rintro e w2 ⟨rfl, HBb⟩; have S2 := Lib.hid ((sc_alloc S1.out _).below HBb); have B2 := Lib.hid (belowT (belowA B1.out _) HBb); have A2 := Lib.hid (addr_new (t := 23) HBb); have Z2 := Lib.hid ((Z1.out.below (belowA (Below.refl _ _) _)).below HBb)) | (go_at_call 144; refine (route_gen s (w.heap.size + 1) j1 b1 _ S2.out hs hj1 (gb_of hGL B2.out (Nat.le_succ _))).mono ?_; rintro e w3 ⟨rfl, HBc, j2, b2, hj2, HSc, P1⟩; have S3 := Lib.hid HSc; have B3 := Lib.hid (But.below B2.out HBc (Nat.le_succ _)); have A3 := Lib.hid (A2.out.but HBc (Nat.ne_of_gt hga)); have Z3 := Lib.hid (Z2.out.but HBc (Nat.ne_of_lt (Nat.lt_succ_self _))); have R1 := Lib.hid P1; clear P1 HSc) | (go_at_call 145; refine (local_gen s (w.heap.size + 1) j2 b2 _ S3.out hs hj2 (gb_of hGL B3.out (Nat.le_succ _))).mono ?_; rintro e w4 ⟨HBd, t, j3, b3, rfl, hj3, HSd, P2⟩; have S4 := Lib.hid ((HSd.step (Below.setCell (Below.refl w1.heap.size _) (p := ⟨w1.heap.size, 0, none⟩) (Nat.le_refl _) (.string t)) hga)); have B4 := Lib.hid ((But.below B3.out HBd (Nat.le_succ _)).setCell (p := ⟨w1.heap.size, 0, none⟩) (by show w.heap.size ≤ w1.heap.size; omega) (.string t)); have A4 := Lib.hid ((A3.out.but HBd (Nat.ne_of_gt hga)).set0 t); have Z4 := Lib.hid ((Z3.out.but HBd (Nat.ne_of_lt (Nat.lt_succ_self _))).other w1.heap.size (by omega) 0 (.string t)); obtain ⟨a40, a41, a42, a43⟩ := (A3.out.but HBd (Nat.ne_of_gt hga)); have R2 := Lib.hid P2; clear P2 HSd) | (go_at_call_of 142 (Value.int IntKind.u8 64); refine (want_gen s (w.heap.size + 1) j3 b3 _ S4.out hs hj3 64 64 (by decide) (by decide)).mono ?_; rintro e w5 ⟨rfl, HBe, j4, b4, hj4, HSe, P3⟩; have S5 := Lib.hid HSe; have B5 := Lib.hid (But.below B4.out HBe (Nat.le_succ _)); have A5 := Lib.hid (A4.out.but HBe (Nat.ne_of_gt hga)); have Z5 := Lib.hid (Z4.out.but HBe (Nat.ne_of_lt (Nat.lt_succ_self _))); have R3 := Lib.hid P3; clear P3 HSe) | (go_at_call 146; refine (domain_gen s (w.heap.size + 1) j4 b4 _ S5.out hs hj4 (gb_of hGL B5.out (Nat.le_succ _))).mono ?_; rintro e w6 ⟨HBf, u, j5, b5, rfl, hj5, HSf, P4⟩; have S6 := Lib.hid ((HSf.step (Below.setCell (Below.refl w1.heap.size _) (p := ⟨w1.heap.size, 1, none⟩) (Nat.le_refl _) (.string u)) hga)); have B6 := Lib.hid ((But.below B5.out HBf (Nat.le_succ _)).setCell (p := ⟨w1.heap.size, 1, none⟩) (by show w.heap.size ≤ w1.heap.size; omega) (.string u)); have A6 := Lib.hid ((A5.out.but HBf (Nat.ne_of_gt hga)).set1 u); have Z6 := Lib.hid ((Z5.out.but HBf (Nat.ne_of_lt (Nat.lt_succ_self _))).other w1.heap.size (by omega) 1 (.string u)); obtain ⟨a60, a61, a62, a63⟩ := (A5.out.but HBf (Nat.ne_of_gt hga)); have R4 := Lib.hid P4; clear P4 HSf) | (go_at_call_of 142 (Value.int IntKind.u8 62); refine (want_gen s (w.heap.size + 1) j5 b5 _ S6.out hs hj5 62 62 (by decide) (by decide)).mono ?_; rintro e w7 ⟨rfl, HBg, j6, b6, hj6, HSg, P5⟩; have S7 := Lib.hid HSg; have B7 := Lib.hid (But.below B6.out HBg (Nat.le_succ _)); have A7 := Lib.hid (A6.out.but HBg (Nat.ne_of_gt hga)); have Z7 := Lib.hid (Z6.out.but HBg (Nat.ne_of_lt (Nat.lt_succ_self _))); have R5 := Lib.hid P5; clear P5 HSg; obtain ⟨hb6, ht, hu, hr, htz, huz⟩ := core_ok hcore.out (core_steps hj1 hj3 R1.out R2.out R3.out R4.out R5.out hj2); subst hb6; have HT := Lib.hid ht; have HU := Lib.hid hu; have HR := Lib.hid hr; clear ht hu hr; have i6 : (0 : Int) ≤ (j6 : Int) := (by omega); have i7 : (j6 : Int) ≤ (s.size : Int) := (by omega); obtain ⟨s70, s71, s72, s73, s74⟩ := S7.out; obtain ⟨a70, a71, a72, a73⟩ := A7.out; obtain ⟨z70, z71, z72, z73⟩ := Z7.out) | (go_at_call 28; have cr := right_any t u (by omega) (by omega) _ (hGL.step B7.out); rw [HT.out, HU.out, hright.out] at cr; refine cr.mono ?_; rintro e w8 ⟨rfl, HBh⟩; have B8 := Lib.hid (belowT B7.out HBh); have s81 := (HBh.cell (p := ⟨w.heap.size + 1, 1, none⟩) S7.out.lt).trans s71; have a80 := (HBh.cell (p := ⟨w1.heap.size, 0, none⟩) A7.out.lt).trans a70; have a81 := (HBh.cell (p := ⟨w1.heap.size, 1, none⟩) A7.out.lt).trans a71; obtain ⟨z80, z81, z82, z83⟩ := Z7.out.below HBh))
  (try simp only [Exit.inBlock, Exit.then])
  refine bodyPost_ret (results_ctt rfl _ _ w.heap.size _ _ _ rfl ((((Z7.out.below HBh).set0 _).set1 _).c0) ((((Z7.out.below HBh).set0 _).set1 _).c1) Tryz.underlying23 rfl (by kernel_rfl)) rfl ?_
  refine ⟨?_, (B8.out.setCell (p := ⟨w.heap.size, 0, none⟩) (Nat.le_refl _) _).setCell (p := ⟨w.heap.size, 1, none⟩) (Nat.le_refl _) _⟩
  rfl

set_option maxHeartbeats 8000000 in
set_option maxRecDepth 100000 in
theorem path_ok (s : ByteArray) (hs : s.size ≤ 2000000000) (w : World) (hGL : GL w) (j1 : Nat) (b1 : Bool) (hj1 : j1 ≤ s.size)
    (cw1 : ∀ g W, Sc W g s 0 false → Calls Tryz.prog 142 #[.pointer (some ⟨g, 0, none⟩), .int .u8 60] W fun e w' => e = .returned (.tuple #[]) ∧ But g W w' ∧ Sc w' g s j1 b1)
    (ct1 : ∀ g W, Sc W g s j1 b1 → Calls Tryz.prog 143 #[.pointer (some ⟨g, 0, none⟩), .int .u8 62] W fun e w' => e = .returned (.bool false) ∧ Below W.heap.size W w')
    (lo d r : List UInt8) (hcore : Hid (b1 = false ∧ coreO (s.data.toList.drop j1) = some (lo, d, r))) (hright : Hid (rightB lo d = true)) :
    Calls Tryz.prog 106 #[.string s] w fun e w' => e = .returned (pathV (lo, d, r, 0)) ∧ Below w.heap.size w w' := by
  have hs' : s.size ≤ 4000000000 := by omega
  have hs := hs'
  clear hs'
  go_enter Tryz.func106, Tryz.ntmps106
  go_wp2_with (first | (go_at_call_of 142 (Value.int IntKind.u8 60); refine (cw1 (w.heap.size + 1) _ (sc_new2 w s _)).mono ?_; rintro e w1 ⟨rfl, HBa, HSa⟩; have S1 := Lib.hid HSa; have B1 := Lib.hid (But.below (belowA (belowA (Below.refl _ _) _) _) HBa (Nat.le_succ _)); have hga : w.heap.size + 1 < w1.heap.size := HSa.lt; have Z1 := Lib.hid (res_new.but HBa (Nat.ne_of_lt (Nat.lt_succ_self _))); clear HSa) | (go_at_call_of 143 (Value.int IntKind.u8 62); refine (ct1 (w.heap.size + 1) _ (sc_alloc S1.out _)).mono ?_; rintro e w2 ⟨rfl, HBb⟩; have S2 := Lib.hid ((sc_alloc S1.out _).below HBb); have B2 := Lib.hid (belowT (belowA B1.out _) HBb); have A2 := Lib.hid (addr_new (t := 23) HBb); have Z2 := Lib.hid ((Z1.out.below (belowA (Below.refl _ _) _)).below HBb)) | (go_at_call 144; refine (route_gen s (w.heap.size + 1) j1 b1 _ S2.out hs hj1 (gb_of hGL B2.out (Nat.le_succ _))).mono ?_; rintro e w3 ⟨rfl, HBc, j2, b2, hj2, HSc, P1⟩; have S3 := Lib.hid HSc; have B3 := Lib.hid (But.below B2.out HBc (Nat.le_succ _)); have A3 := Lib.hid (A2.out.but HBc (Nat.ne_of_gt hga)); have Z3 := Lib.hid (Z2.out.but HBc (Nat.ne_of_lt (Nat.lt_succ_self _))); have R1 := Lib.hid P1; clear P1 HSc) | (go_at_call 145; refine (local_gen s (w.heap.size + 1) j2 b2 _ S3.out hs hj2 (gb_of hGL B3.out (Nat.le_succ _))).mono ?_; rintro e w4 ⟨HBd, t, j3, b3, rfl, hj3, HSd, P2⟩; have S4 := Lib.hid ((HSd.step (Below.setCell (Below.refl w1.heap.size _) (p := ⟨w1.heap.size, 0, none⟩) (Nat.le_refl _) (.string t)) hga)); have B4 := Lib.hid ((But.below B3.out HBd (Nat.le_succ _)).setCell (p := ⟨w1.heap.size, 0, none⟩) (by show w.heap.size ≤ w1.heap.size; omega) (.string t)); have A4 := Lib.hid ((A3.out.but HBd (Nat.ne_of_gt hga)).set0 t); have Z4 := Lib.hid ((Z3.out.but HBd (Nat.ne_of_lt (Nat.lt_succ_self _))).other w1.heap.size (by omega) 0 (.string t)); obtain ⟨a40, a41, a42, a43⟩ := (A3.out.but HBd (Nat.ne_of_gt hga)); have R2 := Lib.hid P2; clear P2 HSd) | (go_at_call_of 142 (Value.int IntKind.u8 64); refine (want_gen s (w.heap.size + 1) j3 b3 _ S4.out hs hj3 64 64 (by decide) (by decide)).mono ?_; rintro e w5 ⟨rfl, HBe, j4, b4, hj4, HSe, P3⟩; have S5 := Lib.hid HSe; have B5 := Lib.hid (But.below B4.out HBe (Nat.le_succ _)); have A5 := Lib.hid (A4.out.but HBe (Nat.ne_of_gt hga)); have Z5 := Lib.hid (Z4.out.but HBe (Nat.ne_of_lt (Nat.lt_succ_self _))); have R3 := Lib.hid P3; clear P3 HSe) | (go_at_call 146; refine (domain_gen s (w.heap.size + 1) j4 b4 _ S5.out hs hj4 (gb_of hGL B5.out (Nat.le_succ _))).mono ?_; rintro e w6 ⟨HBf, u, j5, b5, rfl, hj5, HSf, P4⟩; have S6 := Lib.hid ((HSf.step (Below.setCell (Below.refl w1.heap.size _) (p := ⟨w1.heap.size, 1, none⟩) (Nat.le_refl _) (.string u)) hga)); have B6 := Lib.hid ((But.below B5.out HBf (Nat.le_succ _)).setCell (p := ⟨w1.heap.size, 1, none⟩) (by show w.heap.size ≤ w1.heap.size; omega) (.string u)); have A6 := Lib.hid ((A5.out.but HBf (Nat.ne_of_gt hga)).set1 u); have Z6 := Lib.hid ((Z5.out.but HBf (Nat.ne_of_lt (Nat.lt_succ_self _))).other w1.heap.size (by omega) 1 (.string u)); obtain ⟨a60, a61, a62, a63⟩ := (A5.out.but HBf (Nat.ne_of_gt hga)); have R4 := Lib.hid P4; clear P4 HSf) | (go_at_call_of 142 (Value.int IntKind.u8 62); refine (want_gen s (w.heap.size + 1) j5 b5 _ S6.out hs hj5 62 62 (by decide) (by decide)).mono ?_; rintro e w7 ⟨rfl, HBg, j6, b6, hj6, HSg, P5⟩; have S7 := Lib.hid HSg; have B7 := Lib.hid (But.below B6.out HBg (Nat.le_succ _)); have A7 := Lib.hid (A6.out.but HBg (Nat.ne_of_gt hga)); have Z7 := Lib.hid (Z6.out.but HBg (Nat.ne_of_lt (Nat.lt_succ_self _))); have R5 := Lib.hid P5; clear P5 HSg; obtain ⟨hb6, ht, hu, hr, htz, huz⟩ := core_ok hcore.out (core_steps hj1 hj3 R1.out R2.out R3.out R4.out R5.out hj2); subst hb6; have HT := Lib.hid ht; have HU := Lib.hid hu; have HR := Lib.hid hr; clear ht hu hr; have i6 : (0 : Int) ≤ (j6 : Int) := (by omega); have i7 : (j6 : Int) ≤ (s.size : Int) := (by omega); obtain ⟨s70, s71, s72, s73, s74⟩ := S7.out; obtain ⟨a70, a71, a72, a73⟩ := A7.out; obtain ⟨z70, z71, z72, z73⟩ := Z7.out) | (go_at_call 28; have cr := right_any t u (by omega) (by omega) _ (hGL.step B7.out); rw [HT.out, HU.out, hright.out] at cr; refine cr.mono ?_; rintro e w8 ⟨rfl, HBh⟩; have B8 := Lib.hid (belowT B7.out HBh); have s81 := (HBh.cell (p := ⟨w.heap.size + 1, 1, none⟩) S7.out.lt).trans s71; have a80 := (HBh.cell (p := ⟨w1.heap.size, 0, none⟩) A7.out.lt).trans a70; have a81 := (HBh.cell (p := ⟨w1.heap.size, 1, none⟩) A7.out.lt).trans a71; obtain ⟨z80, z81, z82, z83⟩ := Z7.out.below HBh))
  go_region
  all_goals go_wp2
  (try simp only [Exit.inBlock, Exit.then])
  have Z9 := (((Z7.out.below HBh).set0 t).set1 u).below (belowD (Below.refl _ _))
  refine bodyPost_ret (results_ctt rfl _ _ w.heap.size _ _ _ rfl Z9.c0 Z9.c1 Tryz.underlying23 rfl (by kernel_rfl)) rfl ?_
  refine ⟨?_, belowD ((B8.out.setCell (p := ⟨w.heap.size, 0, none⟩) (Nat.le_refl _) _).setCell (p := ⟨w.heap.size, 1, none⟩) (Nat.le_refl _) _)⟩
  have e1 : t = ⟨lo.toArray⟩ := bstr HT.out
  have e2 : u = ⟨d.toArray⟩ := bstr HU.out
  have e3 : s.extract j6 s.size = ⟨r.toArray⟩ := bstr ((extract_end s j6).trans HR.out)
  rw [e1, e2]
  show Ending.returned (.tuple #[_, .string (s.extract j6 s.size), _]) = _
  rw [e3]; rfl

set_option maxHeartbeats 8000000 in
set_option maxRecDepth 100000 in
theorem path_null (s : ByteArray) (hs : s.size ≤ 2000000000) (w : World) (hGL : GL w)
    (cw1 : ∀ g W, Sc W g s 0 false → Calls Tryz.prog 142 #[.pointer (some ⟨g, 0, none⟩), .int .u8 60] W fun e w' => e = .returned (.tuple #[]) ∧ But g W w' ∧ Sc w' g s 1 false)
    (ct1 : ∀ g W, Sc W g s 1 false → Calls Tryz.prog 143 #[.pointer (some ⟨g, 0, none⟩), .int .u8 62] W fun e w' => e = .returned (.bool true) ∧ But g W w' ∧ Sc w' g s 2 false) (hz : 2 ≤ s.size) :
    Calls Tryz.prog 106 #[.string s] w fun e w' => e = .returned (pathV ([], [], s.data.toList.drop 2, 0)) ∧ Below w.heap.size w w' := by
  have i7 : (2 : Int) ≤ (s.size : Int) := by omega
  have hright : Hid (rightB [] [] = true) := Lib.hid rfl
  go_enter Tryz.func106, Tryz.ntmps106
  go_wp2_with (first | (go_at_call_of 142 (Value.int IntKind.u8 60); refine (cw1 (w.heap.size + 1) _ (sc_new2 w s _)).mono ?_; rintro e w1 ⟨rfl, HBa, HSa⟩; have S1 := Lib.hid HSa; have B1 := Lib.hid (But.below (belowA (belowA (Below.refl _ _) _) _) HBa (Nat.le_succ _)); have hga : w.heap.size + 1 < w1.heap.size := HSa.lt; have Z1 := Lib.hid (res_new.but HBa (Nat.ne_of_lt (Nat.lt_succ_self _))); clear HSa) | (go_at_call_of 143 (Value.int IntKind.u8 62); refine (ct1 (w.heap.size + 1) _ (sc_alloc S1.out _)).mono ?_; rintro e w7 ⟨rfl, HBb, HSb⟩; have S7 := Lib.hid HSb; have B7 := Lib.hid (But.below (belowA B1.out _) HBb (Nat.le_succ _)); have A7 := Lib.hid ((addr_new (t := 23) (Below.refl _ (w1.alloc (.cells #[.string ⟨#[]⟩, .string ⟨#[]⟩] 23)))).but HBb (Nat.ne_of_gt hga)); have Z7 := Lib.hid ((Z1.out.below (belowA (Below.refl _ _) _)).but HBb (Nat.ne_of_lt (Nat.lt_succ_self _))); obtain ⟨s70, s71, s72, s73, s74⟩ := S7.out; obtain ⟨a70, a71, a72, a73⟩ := A7.out; obtain ⟨z70, z71, z72, z73⟩ := Z7.out) | (go_at_call 28; have cr := right_any ⟨#[]⟩ ⟨#[]⟩ (Nat.zero_le _) (Nat.zero_le _) _ (hGL.step B7.out); change Calls _ _ _ _ (fun e w' => e = Ending.returned (.bool (rightB [] [])) ∧ _) at cr; rw [hright.out] at cr; refine cr.mono ?_; rintro e w8 ⟨rfl, HBh⟩; have B8 := Lib.hid (belowT B7.out HBh); have s81 := (HBh.cell (p := ⟨w.heap.size + 1, 1, none⟩) S7.out.lt).trans s71; have a80 := (HBh.cell (p := ⟨w1.heap.size, 0, none⟩) A7.out.lt).trans a70; have a81 := (HBh.cell (p := ⟨w1.heap.size, 1, none⟩) A7.out.lt).trans a71; obtain ⟨z80, z81, z82, z83⟩ := Z7.out.below HBh))
  go_region
  all_goals go_wp2
  (try simp only [Exit.inBlock, Exit.then])
  have Z9 := (((Z7.out.below HBh).set0 ⟨#[]⟩).set1 ⟨#[]⟩).below (belowD (Below.refl _ _))
  refine bodyPost_ret (results_ctt rfl _ _ w.heap.size _ _ _ rfl Z9.c0 Z9.c1 Tryz.underlying23 rfl (by kernel_rfl)) rfl ?_
  refine ⟨?_, belowD ((B8.out.setCell (p := ⟨w.heap.size, 0, none⟩) (Nat.le_refl _) _).setCell (p := ⟨w.heap.size, 1, none⟩) (Nat.le_refl _) _)⟩
  have e3 : s.extract 2 s.size = ⟨(s.data.toList.drop 2).toArray⟩ := bstr (extract_end s 2)
  show Ending.returned (.tuple #[_, .string (s.extract 2 s.size), _]) = _
  rw [e3]; rfl

theorem pathO_at0 (s : ByteArray) : pathO s.data.toList = if nextB s 0 false = 60 then (if nextB s 1 false = 62 then some ([], [], s.data.toList.drop 2) else coreO (s.data.toList.drop 1)) else none := by
  have h0 := next_case s 0
  have h1 := next_case s 1
  rw [List.drop_zero] at h0
  rcases h0 with ⟨ha, hb⟩ | ⟨c, r, ha, hb, hr⟩
  · rw [hb, ha]; rfl
  · rw [hb, ha]
    rw [ha] at h1
    unfold pathO
    by_cases hc : c = 60
    · simp only [if_pos hc]
      rcases h1 with ⟨ha1, hb1⟩ | ⟨c1, r1, ha1, hb1, hr1⟩
      · have ha2 : r = [] := ha1
        rw [hb1, ha2]; rfl
      · have ha2 : r = c1 :: r1 := ha1
        rw [hb1, ha2]; rfl
    · simp only [if_neg hc]

/-- A path's front. -/
theorem path_any (s : ByteArray) (hs : s.size ≤ 2000000000) (w : World) (hGL : GL w) :
    Calls Tryz.prog 106 #[.string s] w fun e w' => e = .returned (pathV (pathL s.data.toList)) ∧ Below w.heap.size w w' := by
  have hp := pathO_at0 s
  by_cases h60 : nextB s 0 false = 60
  · have h1 := (nextB_lt (by decide) h60).1
    have cw1 := fun g W (h : Sc W g s 0 false) => want_yesL 60 s g 0 false 60 W h (by omega) (by decide) h60 (by decide)
    rw [if_pos h60] at hp
    by_cases h62 : nextB s 1 false = 62
    · have h2 := (nextB_lt (by decide) h62).1
      have ct1 := fun g W (h : Sc W g s 1 false) => takes_yesL 62 s g 1 false 62 W h (by omega) (by decide) h62 (by decide)
      rw [if_pos h62] at hp
      have e : pathL s.data.toList = ([], [], s.data.toList.drop 2, 0) := by unfold pathL; rw [hp]; rfl
      rw [e]
      exact path_null s hs w hGL cw1 ct1 h2
    · have ct1 := fun g W (h : Sc W g s 1 false) => takes_noL 62 s g 1 false 62 W h (by omega) h1 h62 (by decide)
      rw [if_neg h62] at hp
      cases hc : coreO (s.data.toList.drop 1) with
      | none =>
        have e : pathL s.data.toList = ([], [], [], 3) := by unfold pathL; rw [hp, hc]
        rw [e]
        exact path_bad s hs w hGL 1 false h1 cw1 ct1 (Lib.hid (.inr hc))
      | some v =>
        obtain ⟨lo, d, r⟩ := v
        cases hr : rightB lo d with
        | false =>
          have e : pathL s.data.toList = ([], [], [], 5) := by unfold pathL; rw [hp, hc]; simp only [hr]; rfl
          rw [e]
          exact path_long s hs w hGL 1 false h1 cw1 ct1 lo d r (Lib.hid ⟨rfl, hc⟩) (Lib.hid hr)
        | true =>
          have e : pathL s.data.toList = (lo, d, r, 0) := by unfold pathL; rw [hp, hc]; simp only [hr]; rfl
          rw [e]
          exact path_ok s hs w hGL 1 false h1 cw1 ct1 lo d r (Lib.hid ⟨rfl, hc⟩) (Lib.hid hr)
  · have cw1 := fun g W (h : Sc W g s 0 false) => want_noL 60 s g 0 false 60 W h (by omega) (Nat.zero_le _) h60 (by decide)
    have ct1 := fun g W (h : Sc W g s 0 true) => takes_noL 62 s g 0 true 62 W h (by omega) (Nat.zero_le _) (by rw [nextB_bad]; decide) (by decide)
    rw [if_neg h60] at hp
    have e : pathL s.data.toList = ([], [], [], 3) := by unfold pathL; rw [hp]
    rw [e]
    exact path_bad s hs w hGL 0 true (Nat.zero_le _) cw1 ct1 (Lib.hid (.inl rfl))
end Go.Proofs.YtkmikhinkbbnnaaGreatDoor.M
