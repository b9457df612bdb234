/- The reference's commands (mailbagref15), by hand: words, blanks ahead, fronts, sizes. -/
import Derived.Test.YtkmikhinkbbnnaaGreatDoorManBD
import Derived.Test.YtkmikhinkbbnnaaGreatDoorManCA
import Derived.Test.YtkmikhinkbbnnaaGreatDoorSpecD
namespace Go.Proofs.YtkmikhinkbbnnaaGreatDoor.M
open Go.RowKit Go.Proofs.YtkmikhinkbbnnaaGreatDoor.Sp

abbrev kindW (w : World) : World := w.alloc (.cells #[.string ⟨#[]⟩, .string ⟨#[104, 101, 108, 111]⟩, .string ⟨#[101, 104, 108, 111]⟩, .string ⟨#[109, 97, 105, 108]⟩, .string ⟨#[114, 99, 112, 116]⟩, .string ⟨#[100, 97, 116, 97]⟩, .string ⟨#[114, 115, 101, 116]⟩, .string ⟨#[110, 111, 111, 112]⟩, .string ⟨#[113, 117, 105, 116]⟩, .string ⟨#[118, 114, 102, 121]⟩] 9)
theorem kindW_cell (w : World) (k : Nat) (h1 : 1 ≤ k) (h9 : k ≤ 9) : (kindW w).cell? ⟨w.heap.size, k, none⟩ = some (.string (kwS k)) := by
  rw [World.cell?_alloc_new]
  refine nine (P := fun k => (#[.string ⟨#[]⟩, .string ⟨#[104, 101, 108, 111]⟩, .string ⟨#[101, 104, 108, 111]⟩, .string ⟨#[109, 97, 105, 108]⟩, .string ⟨#[114, 99, 112, 116]⟩, .string ⟨#[100, 97, 116, 97]⟩, .string ⟨#[114, 115, 101, 116]⟩, .string ⟨#[110, 111, 111, 112]⟩, .string ⟨#[113, 117, 105, 116]⟩, .string ⟨#[118, 114, 102, 121]⟩] : Array Value)[k]? = some (.string (kwS k))) ?_ ?_ ?_ ?_ ?_ ?_ ?_ ?_ ?_ k h1 h9
  all_goals rfl

set_option maxHeartbeats 4000000 in
set_option maxRecDepth 100000 in
theorem rkind_any (s : ByteArray) (w : World) :
    Calls Tryz.prog 75 #[.string s] w fun e w' => e = .returned (.int .i64 (kindL s.data.toList : Int)) ∧ Below w.heap.size w w' := by
  go_enter Tryz.func75, Tryz.ntmps75
  go_wp2
  go_loop [4] (fun c => ∃ k : Nat, 1 ≤ k ∧ k ≤ 10 ∧ c = .int .i64 (k : Int) ∧ Hid (∀ j, 1 ≤ j → j < k → kw j ≠ s.data.toList)) (fun c => 10 - (intOf c).toNat)
  case atStart => exact ⟨1, Nat.le_refl _, by omega, rfl, Lib.hid (fun j h1 h2 => absurd h2 (by omega))⟩
  case round =>
    obtain ⟨k, h1, h2, rfl, HQ⟩ := hrel
    by_cases hk : k ≤ 9
    · have hcell := kindW_cell w k h1 hk
      have hq : (((kwS k).toList == s.toList) : Bool) = (kw k == s.data.toList) := by rw [str_eq, kwS_list]
      have i0 : (k : Int) < 10 := by omega
      have hfound : (kw k == s.data.toList) = true → Hid (kindL s.data.toList = k) := fun h => Lib.hid (kind_found k h1 hk HQ.out (beq_iff_eq.1 h))
      have hnext : (kw k == s.data.toList) = false → Hid (∀ j, 1 ≤ j → j < k + 1 → kw j ≠ s.data.toList) := fun h => Lib.hid (fun j a b => by
        by_cases e : j = k
        · subst e; exact beq_eq_false_iff_ne.1 h
        · exact HQ.out j a (by omega))
      generalize (kw k == s.data.toList) = m at hq hfound hnext
      generalize kwS k = z at hcell hq
      cases m with
      | true =>
        have hf := hfound rfl
        clear hfound hnext
        go_wp2
        go_ret
        exact ⟨by rw [hf.out]; rfl, belowA (Below.refl _ _) _⟩
      | false =>
        have hn := hnext rfl
        clear hfound hnext
        go_wp2
        go_round
        case rel => exact ⟨k + 1, by omega, by omega, by go_num, hn⟩
        case measure => simp [intOf]; omega
    · have hf : Hid (kindL s.data.toList = 0) := Lib.hid (kind_none (fun j a b => HQ.out j a (by omega)))
      have i0 : ¬ (k : Int) < 10 := by omega
      go_wp2
      go_ret
      exact ⟨by rw [hf.out]; rfl, belowA (Below.refl _ _) _⟩

theorem trimLeft_take {c : UInt8} {r : List UInt8} (h : c = 32) : Lib.trimLeftB (c :: r) 32 = Lib.trimLeftB r 32 := by
  unfold Lib.trimLeftB; rw [List.dropWhile_cons, h]; rfl
theorem trimLeft_stop {c : UInt8} {r : List UInt8} (h : c ≠ 32) : Lib.trimLeftB (c :: r) 32 = c :: r := by
  unfold Lib.trimLeftB; rw [List.dropWhile_cons, beq_eq_false_iff_ne.2 h]; rfl

def strLen : Value → Nat
  | .string x => x.size
  | _ => 0
theorem rtrim_any (s : ByteArray) (hs : s.size ≤ 140737488355328) (w : World) :
    Calls Tryz.prog 122 #[.string s] w fun e w' => e = .returned (.string ⟨(Lib.trimLeftB s.data.toList 32).toArray⟩) ∧ w = w' := by
  go_enter Tryz.func122, Tryz.ntmps122
  go_wp2
  go_loop [0] (fun v => ∃ x : ByteArray, v = .string x ∧ x.size ≤ s.size ∧ Hid (Lib.trimLeftB s.data.toList 32 = Lib.trimLeftB x.data.toList 32)) (fun v => strLen v)
  case atStart => exact ⟨s, rfl, Nat.le_refl _, Lib.hid rfl⟩
  case round =>
    obtain ⟨x, rfl, hx, HQ⟩ := hrel
    by_cases hp : 0 < x.size
    · have hE := isEmpty_false hp
      have h0 := drop_get x 0 hp
      rw [List.drop_zero, Nat.zero_add] at h0
      have i1 : (1 : Int) ≤ (x.size : Int) := by omega
      by_cases h32 : x[0] = 32
      · have q0 : (((x[0].toNat : Int) == 32) : Bool) = true := u8_lit x[0] 32 h32
        have HN : Hid (Lib.trimLeftB s.data.toList 32 = Lib.trimLeftB (x.extract 1 x.size).data.toList 32) := Lib.hid (HQ.out.trans ((congrArg (Lib.trimLeftB · 32) h0).trans ((trimLeft_take h32).trans (by rw [extract_end]))))
        have HZ : Hid ((x.extract 1 x.size).size = x.size - 1) := Lib.hid (by rw [ByteArray.size_extract]; omega)
        clear h0 h32
        go_wp2
        go_round
        case rel => exact ⟨x.extract 1 x.size, rfl, by rw [HZ.out]; omega, HN⟩
        case measure => show (x.extract 1 x.size).size < x.size; rw [HZ.out]; omega
      · have q0 : (((x[0].toNat : Int) == 32) : Bool) = false := u8_nlit x[0] 32 h32
        have HF : Hid (x = ⟨(Lib.trimLeftB s.data.toList 32).toArray⟩) := Lib.hid (bstr (h0.trans (HQ.out.trans ((congrArg (Lib.trimLeftB · 32) h0).trans (trimLeft_stop h32))).symm))
        clear h0 h32
        go_wp2
        go_ret
        exact ⟨congrArg (fun z => Ending.returned (.string z)) HF.out, rfl⟩
    · have hE : x.toList.isEmpty = true := by rw [size_zero hp, Go.ByteArray.toList_eq]; rfl
      have HF : Hid (x = ⟨(Lib.trimLeftB s.data.toList 32).toArray⟩) := Lib.hid (bstr (by rw [HQ.out, size_zero hp]; rfl))
      clear hp
      go_wp2
      go_ret
      exact ⟨congrArg (fun z => Ending.returned (.string z)) HF.out, rfl⟩

theorem rfront_any (s ah : ByteArray) (hs : s.size ≤ 140737488355328) (w : World) :
    Calls Tryz.prog 120 #[.string s, .string ah] w fun e w' => e = .returned (.bool (frontL s.data.toList ah.data.toList)) ∧ Below w.heap.size w w' := by
  have l1 := len_eq s
  have l2 := len_eq ah
  by_cases h : ah.size ≤ s.size
  · have i0 : (ah.size : Int) ≤ (s.size : Int) := by omega
    have cl := fun W => refLower_walk (s.extract 0 ah.size) (by rw [ByteArray.size_extract]; omega) _ rfl W
    unfold LowerEnd at cl
    have HF : Hid (frontL s.data.toList ah.data.toList = (((⟨(lower (s.extract 0 ah.size).data.toList).toArray⟩ : ByteArray).toList == ah.toList) : Bool)) := Lib.hid (by
      unfold frontL
      rw [str_eq, Lib.extract_from_zero, l2, decide_eq_true (by omega), Bool.true_and])
    generalize (⟨(lower (s.extract 0 ah.size).data.toList).toArray⟩ : ByteArray) = z at cl HF
    clear l1 l2
    go_enter Tryz.func120, Tryz.ntmps120
    go_wp2_with (go_at_call 76; refine (cl _).mono ?_; rintro e w1 ⟨rfl, HB1⟩)
    go_ret
    exact ⟨ret_bool (by rw [HF.out]), HB1⟩
  · have i0 : ¬ (ah.size : Int) ≤ (s.size : Int) := by omega
    have HF : Hid (frontL s.data.toList ah.data.toList = false) := Lib.hid (by unfold frontL; rw [l1, l2, decide_eq_false h]; rfl)
    clear l1 l2
    go_enter Tryz.func120, Tryz.ntmps120
    go_wp2
    go_ret
    exact ⟨ret_bool (by rw [HF.out]), Below.refl _ _⟩

theorem numF_snoc : ∀ (l : List UInt8) (acc : Nat) (c : UInt8), numF acc (l ++ [c]) = 10 * numF acc l + (c.toNat - 48)
  | [], _, _ => rfl
  | b :: r, acc, c => numF_snoc r (10 * acc + (b.toNat - 48)) c
theorem numF_lt {l : List UInt8} (hd : l.all digitB = true) (h9 : l.length ≤ 9) : numF 0 l < 1000000000 :=
  (parse_digits l 0 hd (by rw [Nat.zero_add, Nat.one_mul]; exact Nat.pow_le_pow_right (by omega) h9)).2

theorem size_digits {l : List UInt8} (h : frontL l ahead = true) : sizeB l = digitsOk (l.drop 6) ∧ (digitsOk (l.drop 6) = true → (sizeR l).1 = (numF 0 (l.drop 6) : Int)) := by
  have hf : 6 ≤ l.length ∧ lower (l.take 6) = ahead := by
    simp only [frontL, Bool.and_eq_true, decide_eq_true_eq, beq_iff_eq] at h
    exact h
  obtain ⟨h1, h2⟩ := sizeB_front hf
  refine ⟨by rw [h1]; exact atoi_ok_digits, fun hd => ?_⟩
  rw [h2, sizeNum, (atoi_digits hd).1]
theorem size_nofront {l : List UInt8} (h : frontL l ahead = false) : sizeB l = false := sizeB_not (fun k => by
  have : frontL l ahead = true := by
    simp only [frontL, Bool.and_eq_true, decide_eq_true_eq, beq_iff_eq]
    exact k
  rw [this] at h; cases h)
def aheadS : ByteArray := ⟨#[32, 115, 105, 122, 101, 61]⟩

set_option maxHeartbeats 4000000 in
set_option maxRecDepth 100000 in
theorem rsize_loop (s d : ByteArray) (hs : s.size ≤ 2000000000) (h6 : 6 ≤ s.size) (hd : s.extract 6 s.size = d) (hfr : frontL s.data.toList ahead = true)
    (cf : ∀ W, Calls Tryz.prog 120 #[.string s, .string ⟨#[32, 115, 105, 122, 101, 61]⟩] W fun e w' => e = .returned (.bool true) ∧ Below W.heap.size W w')
    (hp : 0 < d.size) (h9 : d.size ≤ 9) (w : World) :
    Calls Tryz.prog 123 #[.string s] w fun e w' => SizeEnd s.data.toList e ∧ Below w.heap.size w w' := by
  have hE := isEmpty_false hp
  have i1 : (6 : Int) ≤ (s.size : Int) := by omega
  have i2 : ¬ (9 : Int) < (d.size : Int) := by omega
  have hdl : s.data.toList.drop 6 = d.data.toList := by rw [← hd, extract_end]
  obtain ⟨a1, a2⟩ := size_digits hfr
  rw [hdl] at a1 a2
  have A1 := Lib.hid a1
  have A2 := Lib.hid a2
  have L := Lib.hid (len_eq d)
  clear a1 a2 hdl hfr
  go_enter Tryz.func123, Tryz.ntmps123
  go_wp2_with (go_at_call 120; refine (cf _).mono ?_; rintro e w1 ⟨rfl, HB1⟩)
  clear hd cf
  go_loop [5, 6] (fun n i => ∃ k : Nat, k ≤ d.size ∧ i = .int .i64 (k : Int) ∧ n = .int .i64 (numF 0 (d.data.toList.take k) : Int) ∧ Hid ((d.data.toList.take k).all digitB = true)) (fun _ i => d.size - (intOf i).toNat)
  case atStart => exact ⟨0, Nat.zero_le _, rfl, rfl, Lib.hid rfl⟩
  case round =>
    obtain ⟨k, hk, rfl, rfl, HD⟩ := hrel
    by_cases hlt : k < d.size
    · have ht := take_get d k hlt
      have hb : numF 0 (d.data.toList.take k) < 1000000000 := numF_lt HD.out (by rw [List.length_take]; omega)
      cases hdig : digitB d[k] with
      | true =>
        obtain ⟨v0, v1⟩ := digit_nat hdig
        have HN : Hid (((10 * numF 0 (d.data.toList.take k) + (d[k].toNat - 48) : Nat) : Int) = (numF 0 (d.data.toList.take (k + 1)) : Int)) := Lib.hid (by rw [ht, numF_snoc])
        have HD2 : Hid ((d.data.toList.take (k + 1)).all digitB = true) := Lib.hid (by rw [ht, List.all_append, HD.out, List.all_cons, hdig]; rfl)
        clear ht hdig
        generalize numF 0 (d.data.toList.take k) = n at hb HN
        have v2 : ¬ (d[k].toNat : Int) < 48 := by omega
        have v3 : ¬ (57 : Int) < (d[k].toNat : Int) := by omega
        have v4 : (48 : Int) ≤ (d[k].toNat : Int) := by omega
        have v5 : (d[k].toNat : Int) ≤ 57 := by omega
        have v6 : (0 : Int) ≤ (n : Int) := by omega
        have v7 : (n : Int) ≤ 1000000000 := by omega
        go_wp2
        go_round
        case rel => exact ⟨k + 1, hlt, by go_num, by rw [← HN.out]; exact congrArg (Value.int IntKind.i64) (by omega), HD2⟩
        case measure => simp [intOf]; omega
      | false =>
        have hv := digit_not hdig
        have HF : Hid (sizeB s.data.toList = false) := Lib.hid (by
          rw [A1.out]
          cases hx : digitsOk d.data.toList with
          | false => rfl
          | true =>
            simp only [digitsOk, Bool.and_eq_true] at hx
            have := List.all_eq_true.1 hx.2 d[k] (List.getElem_mem (by rw [len_eq]; exact hlt))
            rw [this] at hdig; cases hdig)
        have v0 : (d[k].toNat : Int) < 48 ∨ (¬ (d[k].toNat : Int) < 48 ∧ (57 : Int) < (d[k].toNat : Int)) := by omega
        clear ht hdig hv
        rcases v0 with v0 | ⟨v0, v1⟩
        all_goals
          go_wp2
          go_ret2
          exact ⟨sizeEnd_no HF.out, HB1⟩
    · have hall : d.data.toList.take k = d.data.toList := List.take_of_length_le (by rw [len_eq]; omega)
      rw [hall] at HD ⊢
      have hok : digitsOk d.data.toList = true := by
        simp only [digitsOk, Bool.and_eq_true, decide_eq_true_eq, Bool.not_eq_true']
        refine ⟨⟨?_, by rw [L.out]; exact h9⟩, HD.out⟩
        rw [Bool.eq_false_iff]; intro h; rw [List.isEmpty_iff] at h; have := L.out; rw [h] at this; simp at this; omega
      have HF : Hid (SizeEnd s.data.toList (.returned (.tuple #[.int .i64 (numF 0 d.data.toList : Int), .bool true]))) := Lib.hid ⟨_, by rw [A1.out, hok], fun _ => (A2.out hok).symm⟩
      clear hall hok
      generalize numF 0 d.data.toList = n at HF ⊢
      go_wp2
      go_ret2
      exact ⟨HF.out, HB1⟩

theorem rsize_any (s : ByteArray) (hs : s.size ≤ 2000000000) (w : World) :
    Calls Tryz.prog 123 #[.string s] w fun e w' => SizeEnd s.data.toList e ∧ Below w.heap.size w w' := by
  have cf := fun W => rfront_any s ⟨#[32, 115, 105, 122, 101, 61]⟩ (by omega) W
  change ∀ W, Calls _ _ _ _ (fun e w' => e = .returned (.bool (frontL s.data.toList ahead)) ∧ _) at cf
  cases hfr : frontL s.data.toList ahead with
  | false =>
    rw [hfr] at cf
    have HF := Lib.hid (size_nofront hfr)
    clear hfr
    go_enter Tryz.func123, Tryz.ntmps123
    go_wp2_with (go_at_call 120; refine (cf _).mono ?_; rintro e w1 ⟨rfl, HB1⟩)
    go_ret2
    exact ⟨sizeEnd_no HF.out, HB1⟩
  | true =>
    rw [hfr] at cf
    have h6 : 6 ≤ s.size := by
      simp only [frontL, Bool.and_eq_true, decide_eq_true_eq] at hfr
      have := hfr.1
      rw [len_eq] at this
      exact this
    have i1 : (6 : Int) ≤ (s.size : Int) := by omega
    generalize hd : s.extract 6 s.size = d
    have hdl : s.data.toList.drop 6 = d.data.toList := by rw [← hd, extract_end]
    by_cases hg : 0 < d.size ∧ d.size ≤ 9
    · exact rsize_loop s d hs h6 hd hfr cf hg.1 hg.2 w
    · obtain ⟨a1, _⟩ := size_digits hfr
      rw [hdl] at a1
      have HF : Hid (sizeB s.data.toList = false) := Lib.hid (by
        rw [a1]
        cases hx : digitsOk d.data.toList with
        | false => rfl
        | true =>
          simp only [digitsOk, Bool.and_eq_true, decide_eq_true_eq, Bool.not_eq_true', len_eq] at hx
          refine absurd ⟨?_, hx.1.2⟩ hg
          rcases Nat.eq_zero_or_pos d.size with h0 | h0
          · rw [size_zero (s := d) (by omega)] at hx; simp at hx
          · exact h0)
      clear a1 hdl hfr
      by_cases hp : 0 < d.size
      · have hE := isEmpty_false hp
        have i2 : (9 : Int) < (d.size : Int) := by omega
        clear hg
        go_enter Tryz.func123, Tryz.ntmps123
        go_wp2_with (go_at_call 120; refine (cf _).mono ?_; rintro e w1 ⟨rfl, HB1⟩)
        go_ret2
        exact ⟨sizeEnd_no HF.out, HB1⟩
      · have hE : d.toList.isEmpty = true := by rw [size_zero hp, Go.ByteArray.toList_eq]; rfl
        clear hg hp
        go_enter Tryz.func123, Tryz.ntmps123
        go_wp2_with (go_at_call 120; refine (cf _).mono ?_; rintro e w1 ⟨rfl, HB1⟩)
        go_ret2
        exact ⟨sizeEnd_no HF.out, HB1⟩
end Go.Proofs.YtkmikhinkbbnnaaGreatDoor.M
