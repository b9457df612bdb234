/- mailbaglaw15.CmdWords, by hand. -/
import Derived.Test.YtkmikhinkbbnnaaGreatDoorManBG
namespace Go.Proofs.YtkmikhinkbbnnaaGreatDoor.M
open Go.RowKit Go.Proofs.YtkmikhinkbbnnaaGreatDoor.Sp
attribute [local go_sem ↓] Go.wp_at_zero Go.wp_at_succ

theorem conv1 (W : World) (c : UInt8) (v : Int) (hv : v = (c.toNat : Int)) :
    (convert 28 9 (.slice (some ⟨W.heap.size, 0, none⟩) 1 1)).run Tryz.prog (W.alloc (.cells #[.int .u8 v] 5)) = .ok (.string ⟨#[c]⟩) (W.alloc (.cells #[.int .u8 v] 5)) := by
  subst hv; exact ownB_string (ownB_lit W W.heap.size [c] (Nat.le_refl _) (by simp))
theorem inkOf_nat (c : UInt8) : 33 + (c.toNat : Int) % 94 = ((inkOf c).toNat : Int) := by
  have h := beq_iff_eq.1 (all256 (p := fun c => (inkOf c).toNat == 33 + c.toNat % 94) (by decide +kernel) c)
  rw [h]; omega
theorem capOf_nat (c : UInt8) : 65 + (c.toNat : Int) % 26 = ((capOf c).toNat : Int) := by
  have h := beq_iff_eq.1 (all256 (p := fun c => (capOf c).toNat == 65 + c.toNat % 26) (by decide +kernel) c)
  rw [h]; omega
theorem size_snoc (s : ByteArray) (c : UInt8) : (s ++ ⟨#[c]⟩ : ByteArray).size = s.size + 1 := by rw [ByteArray.size_append]; rfl
theorem list_snoc (s : ByteArray) (c : UInt8) : (s ++ ⟨#[c]⟩ : ByteArray).data.toList = s.data.toList ++ [c] := by rw [ByteArray.data_append]; simp

theorem parse_err (x : ByteArray) (code : Int) (hs : x.size ≤ 1000000000) (h : parseL x.data.toList = cmdE code) (W : World) (hW : GL W) :
    Calls Tryz.prog 26 #[.string x] W fun e w' => e = .returned (.tuple #[.agg #[.int .i64 0, .string ⟨#[]⟩, .string ⟨#[]⟩, .string ⟨#[]⟩, .int .i64 0], .int .i64 code]) ∧ Below W.heap.size W w' := by
  have c := parse_any x hs W hW
  rw [h] at c
  exact c
theorem parse_bare (x : ByteArray) (n : Int) (hs : x.size ≤ 1000000000) (h : parseL x.data.toList = (n, [], [], [], 0, 0)) (W : World) (hW : GL W) :
    Calls Tryz.prog 26 #[.string x] W fun e w' => e = .returned (.tuple #[.agg #[.int .i64 n, .string ⟨#[]⟩, .string ⟨#[]⟩, .string ⟨#[]⟩, .int .i64 0], .int .i64 0]) ∧ Below W.heap.size W w' := by
  have c := parse_any x hs W hW
  rw [h] at c
  exact c
theorem bare_glue (k : Nat) (hk : k < 3) (b ts : ByteArray) (hb : b.data.toList = bareW k) (hT : ts.data.toList.all inkB = true) (hz : 0 < ts.size) : parseL (b ++ ⟨#[32]⟩ ++ ts : ByteArray).data.toList = cmdE 501 := by
  have e : (b ++ ⟨#[32]⟩ ++ ts : ByteArray).data.toList = bareW k ++ 32 :: ts.data.toList := by rw [← hb]; simp [ByteArray.data_append]
  rw [e]
  exact bare_line k hk _ hT (fun h => by have := len_eq ts; rw [h] at this; simp at this; omega)

theorem z_glue (z ts : ByteArray) (r : List UInt8) (hz : z.data.toList = 90 :: r) (hr : r.all inkB = true) (hT : ts.data.toList.all inkB = true) (hp : 0 < ts.size) : parseL (z ++ ⟨#[32]⟩ ++ ts : ByteArray).data.toList = cmdE 500 := by
  have e : (z ++ ⟨#[32]⟩ ++ ts : ByteArray).data.toList = (90 :: r) ++ 32 :: ts.data.toList := by rw [← hz]; simp [ByteArray.data_append]
  rw [e]
  exact z_line r _ hr hT (fun h => by have := len_eq ts; rw [h] at this; simp at this; omega)

set_option maxHeartbeats 8000000 in
set_option maxRecDepth 100000 in
theorem cmdWords_full (n : Int) (word more : ByteArray) (h1 : word.size ≤ 100) (h2 : more.size ≤ 300) (h3 : 0 < more.size) (w : World) (hGL : GL w) :
    Calls Tryz.prog 7 #[.int .i64 n, .string word, .string more] w fun e w' => e = .returned (.bool true) ∧ Below w.heap.size w w' := by
  have ck := fun W (hW : GL W) => known_any W hW
  have i0 : ¬ (100 : Int) < (word.size : Int) := by omega
  have i1 : ¬ (300 : Int) < (more.size : Int) := by omega
  have i2 : (((more.size : Nat) : Int) == 0) = false := by rw [beq_eq_false_iff_ne]; omega
  go_enter Tryz.func7, Tryz.ntmps7
  go_wp2_with (go_at_call 25; refine (ck _ hGL).mono ?_; rintro e w1 ⟨rfl, HB1⟩)
  go_loopw [7, 8] (fun tx i wr => ∃ (k : Nat) (ts : ByteArray), k ≤ more.size ∧ tx = .string ts ∧ i = .int .i64 k ∧ ts.size = k + 1 ∧ Hid (ts.data.toList = 120 :: (more.data.toList.take k).map inkOf) ∧ Hid (Below w.heap.size w wr)) (fun _ i _ => more.size - (intOf i).toNat)
  case atStart => exact ⟨0, _, Nat.zero_le _, rfl, rfl, rfl, Lib.hid rfl, Lib.hid HB1⟩
  case round =>
    obtain ⟨k, ts, hk, rfl, rfl, hz, HT, HB⟩ := hrel
    by_cases hlt : k < more.size
    · have hcv := conv1 wr (inkOf more[k]) _ (inkOf_nat more[k])
      have HK := Lib.hid (take_get more k hlt)
      go_wp2
      go_roundw
      case rel => exact ⟨k + 1, ts ++ ⟨#[inkOf more[k]]⟩, hlt, rfl, by go_num, by rw [size_snoc, hz], Lib.hid (by rw [list_snoc, HT.out, HK.out, List.map_append]; rfl), Lib.hid (belowA HB.out _)⟩
      case measure => simp [intOf]; omega
    · obtain rfl : k = more.size := by omega
      have hT : ts.data.toList.all inkB = true := by
        rw [HT.out, List.all_cons, List.all_map, List.all_eq_true.2 (fun x _ => show (inkB ∘ inkOf) x = true from inkOf_ink x)]; decide
      have hs : n.tmod 3 = 0 ∨ n.tmod 3 = 1 ∨ n.tmod 3 = 2 ∨ n.tmod 3 = -1 ∨ n.tmod 3 = -2 := by
        have h1 := Int.tmod_lt_of_pos n (show (0 : Int) < 3 by decide)
        have h2 := Int.lt_tmod_of_pos n (show (0 : Int) < 3 by decide)
        omega
      have HS5 := Lib.hid hs
      have HTT := Lib.hid hT
      clear hs hT
      have htz : ts.size ≤ 301 := by omega
      have htp : 0 < ts.size := by omega
      have hbz : ∀ b : ByteArray, b.size = 4 → (b ++ ⟨#[32]⟩ ++ ts : ByteArray).size ≤ 1000000000 := fun b hb => by
        rw [ByteArray.size_append, ByteArray.size_append, hb]; show 4 + 1 + ts.size ≤ _; omega
      rcases HS5.out with hm | hm | hm | hm | hm
      · have cA := parse_err (⟨#[68, 65, 84, 65]⟩ ++ ⟨#[32]⟩ ++ ts) 501 (hbz _ rfl) (bare_glue 0 (by decide) _ ts rfl HTT.out htp)
        have cB := parse_bare ⟨#[68, 65, 84, 65]⟩ 5 (by decide) (by decide +kernel)
        clear hbz
        go_wp2_with (first | (go_at_call_of 26 (Value.string { data := #[68, 65, 84, 65] }); refine (cB _ (hGL.step (belowA B2.out _))).mono ?_; rintro e w3 ⟨rfl, HB3⟩; have B3 := Lib.hid (belowT (belowA B2.out _) HB3)) | (go_at_call 26; refine (cA _ (hGL.step (belowA HB.out _))).mono ?_; rintro e w2 ⟨rfl, HB2⟩; have B2 := Lib.hid (belowT (belowA HB.out _) HB2); have x0 : w2.cell? ⟨wr.heap.size, 0, none⟩ = some (.string ⟨#[68, 65, 84, 65]⟩) := cellNew HB2 0 rfl; have xk := (fun o => ((belowA (Below.refl w2.heap.size w2) o).cell (World.block_lt_of_cell? w2 _ x0)).trans x0)))
        clear hm cA cB xk
        go_loopw [15, 16] (fun tx i wv => ∃ (k : Nat) (zs : ByteArray), k ≤ word.size ∧ tx = .string zs ∧ i = .int .i64 k ∧ zs.size = k + 1 ∧ Hid (zs.data.toList = 90 :: (word.data.toList.take k).map capOf) ∧ Hid (Below w.heap.size w wv)) (fun _ i _ => word.size - (intOf i).toNat)
        case atStart => exact ⟨0, _, Nat.zero_le _, rfl, rfl, rfl, Lib.hid rfl, Lib.hid (belowA B3.out _)⟩
        case round =>
          obtain ⟨k, zs, hk, rfl, rfl, hzz, HZ, HBz⟩ := hrel
          by_cases hlt : k < word.size
          · have hcv := conv1 wr (capOf word[k]) _ (capOf_nat word[k])
            have HK := Lib.hid (take_get word k hlt)
            go_wp2
            go_roundw
            case rel => exact ⟨k + 1, zs ++ ⟨#[capOf word[k]]⟩, hlt, rfl, by go_num, by rw [size_snoc, hzz], Lib.hid (by rw [list_snoc, HZ.out, HK.out, List.map_append]; rfl), Lib.hid (belowA HBz.out _)⟩
            case measure => simp [intOf]; omega
          · have cC := parse_err (zs ++ ⟨#[32]⟩ ++ ts) 500 (by rw [ByteArray.size_append, ByteArray.size_append, hzz]; show k + 1 + 1 + ts.size ≤ _; omega) (z_glue zs ts _ HZ.out (by rw [List.all_map, List.all_eq_true.2 (fun x _ => show (inkB ∘ capOf) x = true from capOf_ink x)]) HTT.out htp)
            go_wp2_with (go_at_call 26; refine (cC _ (hGL.step HBz.out)).mono ?_; rintro e w4 ⟨rfl, HB4⟩)
            go_ret
            exact ⟨rfl, belowA (belowT HBz.out HB4) _⟩
      · have cA := parse_err (⟨#[82, 83, 69, 84]⟩ ++ ⟨#[32]⟩ ++ ts) 501 (hbz _ rfl) (bare_glue 1 (by decide) _ ts rfl HTT.out htp)
        have cB := parse_bare ⟨#[82, 83, 69, 84]⟩ 6 (by decide) (by decide +kernel)
        clear hbz
        go_wp2_with (first | (go_at_call_of 26 (Value.string { data := #[82, 83, 69, 84] }); refine (cB _ (hGL.step (belowA B2.out _))).mono ?_; rintro e w3 ⟨rfl, HB3⟩; have B3 := Lib.hid (belowT (belowA B2.out _) HB3)) | (go_at_call 26; refine (cA _ (hGL.step (belowA HB.out _))).mono ?_; rintro e w2 ⟨rfl, HB2⟩; have B2 := Lib.hid (belowT (belowA HB.out _) HB2); have x0 : w2.cell? ⟨wr.heap.size, 1, none⟩ = some (.string ⟨#[82, 83, 69, 84]⟩) := cellNew HB2 1 rfl; have xk := (fun o => ((belowA (Below.refl w2.heap.size w2) o).cell (World.block_lt_of_cell? w2 _ x0)).trans x0)))
        clear hm cA cB xk
        go_loopw [15, 16] (fun tx i wv => ∃ (k : Nat) (zs : ByteArray), k ≤ word.size ∧ tx = .string zs ∧ i = .int .i64 k ∧ zs.size = k + 1 ∧ Hid (zs.data.toList = 90 :: (word.data.toList.take k).map capOf) ∧ Hid (Below w.heap.size w wv)) (fun _ i _ => word.size - (intOf i).toNat)
        case atStart => exact ⟨0, _, Nat.zero_le _, rfl, rfl, rfl, Lib.hid rfl, Lib.hid (belowA B3.out _)⟩
        case round =>
          obtain ⟨k, zs, hk, rfl, rfl, hzz, HZ, HBz⟩ := hrel
          by_cases hlt : k < word.size
          · have hcv := conv1 wr (capOf word[k]) _ (capOf_nat word[k])
            have HK := Lib.hid (take_get word k hlt)
            go_wp2
            go_roundw
            case rel => exact ⟨k + 1, zs ++ ⟨#[capOf word[k]]⟩, hlt, rfl, by go_num, by rw [size_snoc, hzz], Lib.hid (by rw [list_snoc, HZ.out, HK.out, List.map_append]; rfl), Lib.hid (belowA HBz.out _)⟩
            case measure => simp [intOf]; omega
          · have cC := parse_err (zs ++ ⟨#[32]⟩ ++ ts) 500 (by rw [ByteArray.size_append, ByteArray.size_append, hzz]; show k + 1 + 1 + ts.size ≤ _; omega) (z_glue zs ts _ HZ.out (by rw [List.all_map, List.all_eq_true.2 (fun x _ => show (inkB ∘ capOf) x = true from capOf_ink x)]) HTT.out htp)
            go_wp2_with (go_at_call 26; refine (cC _ (hGL.step HBz.out)).mono ?_; rintro e w4 ⟨rfl, HB4⟩)
            go_ret
            exact ⟨rfl, belowA (belowT HBz.out HB4) _⟩
      · have cA := parse_err (⟨#[81, 85, 73, 84]⟩ ++ ⟨#[32]⟩ ++ ts) 501 (hbz _ rfl) (bare_glue 2 (by decide) _ ts rfl HTT.out htp)
        have cB := parse_bare ⟨#[81, 85, 73, 84]⟩ 8 (by decide) (by decide +kernel)
        clear hbz
        go_wp2_with (first | (go_at_call_of 26 (Value.string { data := #[81, 85, 73, 84] }); refine (cB _ (hGL.step (belowA B2.out _))).mono ?_; rintro e w3 ⟨rfl, HB3⟩; have B3 := Lib.hid (belowT (belowA B2.out _) HB3)) | (go_at_call 26; refine (cA _ (hGL.step (belowA HB.out _))).mono ?_; rintro e w2 ⟨rfl, HB2⟩; have B2 := Lib.hid (belowT (belowA HB.out _) HB2); have x0 : w2.cell? ⟨wr.heap.size, 2, none⟩ = some (.string ⟨#[81, 85, 73, 84]⟩) := cellNew HB2 2 rfl; have xk := (fun o => ((belowA (Below.refl w2.heap.size w2) o).cell (World.block_lt_of_cell? w2 _ x0)).trans x0)))
        clear hm cA cB xk
        go_loopw [15, 16] (fun tx i wv => ∃ (k : Nat) (zs : ByteArray), k ≤ word.size ∧ tx = .string zs ∧ i = .int .i64 k ∧ zs.size = k + 1 ∧ Hid (zs.data.toList = 90 :: (word.data.toList.take k).map capOf) ∧ Hid (Below w.heap.size w wv)) (fun _ i _ => word.size - (intOf i).toNat)
        case atStart => exact ⟨0, _, Nat.zero_le _, rfl, rfl, rfl, Lib.hid rfl, Lib.hid (belowA B3.out _)⟩
        case round =>
          obtain ⟨k, zs, hk, rfl, rfl, hzz, HZ, HBz⟩ := hrel
          by_cases hlt : k < word.size
          · have hcv := conv1 wr (capOf word[k]) _ (capOf_nat word[k])
            have HK := Lib.hid (take_get word k hlt)
            go_wp2
            go_roundw
            case rel => exact ⟨k + 1, zs ++ ⟨#[capOf word[k]]⟩, hlt, rfl, by go_num, by rw [size_snoc, hzz], Lib.hid (by rw [list_snoc, HZ.out, HK.out, List.map_append]; rfl), Lib.hid (belowA HBz.out _)⟩
            case measure => simp [intOf]; omega
          · have cC := parse_err (zs ++ ⟨#[32]⟩ ++ ts) 500 (by rw [ByteArray.size_append, ByteArray.size_append, hzz]; show k + 1 + 1 + ts.size ≤ _; omega) (z_glue zs ts _ HZ.out (by rw [List.all_map, List.all_eq_true.2 (fun x _ => show (inkB ∘ capOf) x = true from capOf_ink x)]) HTT.out htp)
            go_wp2_with (go_at_call 26; refine (cC _ (hGL.step HBz.out)).mono ?_; rintro e w4 ⟨rfl, HB4⟩)
            go_ret
            exact ⟨rfl, belowA (belowT HBz.out HB4) _⟩
      · have cA := parse_err (⟨#[82, 83, 69, 84]⟩ ++ ⟨#[32]⟩ ++ ts) 501 (hbz _ rfl) (bare_glue 1 (by decide) _ ts rfl HTT.out htp)
        have cB := parse_bare ⟨#[82, 83, 69, 84]⟩ 6 (by decide) (by decide +kernel)
        clear hbz
        go_wp2_with (first | (go_at_call_of 26 (Value.string { data := #[82, 83, 69, 84] }); refine (cB _ (hGL.step (belowA B2.out _))).mono ?_; rintro e w3 ⟨rfl, HB3⟩; have B3 := Lib.hid (belowT (belowA B2.out _) HB3)) | (go_at_call 26; refine (cA _ (hGL.step (belowA HB.out _))).mono ?_; rintro e w2 ⟨rfl, HB2⟩; have B2 := Lib.hid (belowT (belowA HB.out _) HB2); have x0 : w2.cell? ⟨wr.heap.size, 1, none⟩ = some (.string ⟨#[82, 83, 69, 84]⟩) := cellNew HB2 1 rfl; have xk := (fun o => ((belowA (Below.refl w2.heap.size w2) o).cell (World.block_lt_of_cell? w2 _ x0)).trans x0)))
        clear hm cA cB xk
        go_loopw [15, 16] (fun tx i wv => ∃ (k : Nat) (zs : ByteArray), k ≤ word.size ∧ tx = .string zs ∧ i = .int .i64 k ∧ zs.size = k + 1 ∧ Hid (zs.data.toList = 90 :: (word.data.toList.take k).map capOf) ∧ Hid (Below w.heap.size w wv)) (fun _ i _ => word.size - (intOf i).toNat)
        case atStart => exact ⟨0, _, Nat.zero_le _, rfl, rfl, rfl, Lib.hid rfl, Lib.hid (belowA B3.out _)⟩
        case round =>
          obtain ⟨k, zs, hk, rfl, rfl, hzz, HZ, HBz⟩ := hrel
          by_cases hlt : k < word.size
          · have hcv := conv1 wr (capOf word[k]) _ (capOf_nat word[k])
            have HK := Lib.hid (take_get word k hlt)
            go_wp2
            go_roundw
            case rel => exact ⟨k + 1, zs ++ ⟨#[capOf word[k]]⟩, hlt, rfl, by go_num, by rw [size_snoc, hzz], Lib.hid (by rw [list_snoc, HZ.out, HK.out, List.map_append]; rfl), Lib.hid (belowA HBz.out _)⟩
            case measure => simp [intOf]; omega
          · have cC := parse_err (zs ++ ⟨#[32]⟩ ++ ts) 500 (by rw [ByteArray.size_append, ByteArray.size_append, hzz]; show k + 1 + 1 + ts.size ≤ _; omega) (z_glue zs ts _ HZ.out (by rw [List.all_map, List.all_eq_true.2 (fun x _ => show (inkB ∘ capOf) x = true from capOf_ink x)]) HTT.out htp)
            go_wp2_with (go_at_call 26; refine (cC _ (hGL.step HBz.out)).mono ?_; rintro e w4 ⟨rfl, HB4⟩)
            go_ret
            exact ⟨rfl, belowA (belowT HBz.out HB4) _⟩
      · have cA := parse_err (⟨#[81, 85, 73, 84]⟩ ++ ⟨#[32]⟩ ++ ts) 501 (hbz _ rfl) (bare_glue 2 (by decide) _ ts rfl HTT.out htp)
        have cB := parse_bare ⟨#[81, 85, 73, 84]⟩ 8 (by decide) (by decide +kernel)
        clear hbz
        go_wp2_with (first | (go_at_call_of 26 (Value.string { data := #[81, 85, 73, 84] }); refine (cB _ (hGL.step (belowA B2.out _))).mono ?_; rintro e w3 ⟨rfl, HB3⟩; have B3 := Lib.hid (belowT (belowA B2.out _) HB3)) | (go_at_call 26; refine (cA _ (hGL.step (belowA HB.out _))).mono ?_; rintro e w2 ⟨rfl, HB2⟩; have B2 := Lib.hid (belowT (belowA HB.out _) HB2); have x0 : w2.cell? ⟨wr.heap.size, 2, none⟩ = some (.string ⟨#[81, 85, 73, 84]⟩) := cellNew HB2 2 rfl; have xk := (fun o => ((belowA (Below.refl w2.heap.size w2) o).cell (World.block_lt_of_cell? w2 _ x0)).trans x0)))
        clear hm cA cB xk
        go_loopw [15, 16] (fun tx i wv => ∃ (k : Nat) (zs : ByteArray), k ≤ word.size ∧ tx = .string zs ∧ i = .int .i64 k ∧ zs.size = k + 1 ∧ Hid (zs.data.toList = 90 :: (word.data.toList.take k).map capOf) ∧ Hid (Below w.heap.size w wv)) (fun _ i _ => word.size - (intOf i).toNat)
        case atStart => exact ⟨0, _, Nat.zero_le _, rfl, rfl, rfl, Lib.hid rfl, Lib.hid (belowA B3.out _)⟩
        case round =>
          obtain ⟨k, zs, hk, rfl, rfl, hzz, HZ, HBz⟩ := hrel
          by_cases hlt : k < word.size
          · have hcv := conv1 wr (capOf word[k]) _ (capOf_nat word[k])
            have HK := Lib.hid (take_get word k hlt)
            go_wp2
            go_roundw
            case rel => exact ⟨k + 1, zs ++ ⟨#[capOf word[k]]⟩, hlt, rfl, by go_num, by rw [size_snoc, hzz], Lib.hid (by rw [list_snoc, HZ.out, HK.out, List.map_append]; rfl), Lib.hid (belowA HBz.out _)⟩
            case measure => simp [intOf]; omega
          · have cC := parse_err (zs ++ ⟨#[32]⟩ ++ ts) 500 (by rw [ByteArray.size_append, ByteArray.size_append, hzz]; show k + 1 + 1 + ts.size ≤ _; omega) (z_glue zs ts _ HZ.out (by rw [List.all_map, List.all_eq_true.2 (fun x _ => show (inkB ∘ capOf) x = true from capOf_ink x)]) HTT.out htp)
            go_wp2_with (go_at_call 26; refine (cC _ (hGL.step HBz.out)).mono ?_; rintro e w4 ⟨rfl, HB4⟩)
            go_ret
            exact ⟨rfl, belowA (belowT HBz.out HB4) _⟩

theorem cmdWords_any (n : Int) (word more : ByteArray) (w : World) (hGL : GL w) :
    Calls Tryz.prog 7 #[.int .i64 n, .string word, .string more] w fun e w' => e = .returned (.bool true) ∧ Below w.heap.size w w' := by
  by_cases h1 : word.size ≤ 100
  · by_cases h2 : more.size ≤ 300
    · by_cases h3 : 0 < more.size
      · exact cmdWords_full n word more h1 h2 h3 w hGL
      · have ck := fun W (hW : GL W) => known_any W hW
        have i0 : ¬ (100 : Int) < (word.size : Int) := by omega
        have i1 : ¬ (300 : Int) < (more.size : Int) := by omega
        obtain rfl := size_zero h3
        clear h3 h2
        go_enter Tryz.func7, Tryz.ntmps7
        go_wp2_with (go_at_call 25; refine (ck _ hGL).mono ?_; rintro e w1 ⟨rfl, HB1⟩)
        go_ret
        exact ⟨rfl, HB1⟩
    · have ck := fun W (hW : GL W) => known_any W hW
      have i0 : ¬ (100 : Int) < (word.size : Int) := by omega
      have i1 : (300 : Int) < (more.size : Int) := by omega
      go_enter Tryz.func7, Tryz.ntmps7
      go_wp2_with (go_at_call 25; refine (ck _ hGL).mono ?_; rintro e w1 ⟨rfl, HB1⟩)
      go_ret
      exact ⟨rfl, HB1⟩
  · have ck := fun W (hW : GL W) => known_any W hW
    have i0 : (100 : Int) < (word.size : Int) := by omega
    go_enter Tryz.func7, Tryz.ntmps7
    go_wp2_with (go_at_call 25; refine (ck _ hGL).mono ?_; rintro e w1 ⟨rfl, HB1⟩)
    go_ret
    exact ⟨rfl, HB1⟩
end Go.Proofs.YtkmikhinkbbnnaaGreatDoor.M
