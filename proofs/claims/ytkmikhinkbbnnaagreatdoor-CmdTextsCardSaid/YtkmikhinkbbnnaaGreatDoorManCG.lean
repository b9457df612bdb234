/- The reference's commands (mailbagref15), by hand: a line read. -/
import Derived.Test.YtkmikhinkbbnnaaGreatDoorManCE
import Derived.Test.YtkmikhinkbbnnaaGreatDoorManBG
namespace Go.Proofs.YtkmikhinkbbnnaaGreatDoor.M
open Go.RowKit Go.Proofs.YtkmikhinkbbnnaaGreatDoor.Sp

theorem path_cases (l : List UInt8) : pathL l = ([], [], [], 3) ∨ pathL l = ([], [], [], 5) ∨ ∃ lo d r, pathL l = (lo, d, r, 0) := by
  rw [pathL_eq]
  cases pathO l with
  | none => exact .inl rfl
  | some v =>
    obtain ⟨lo, d, r⟩ := v
    show (if rightB lo d then _ else bad5) = _ ∨ (if rightB lo d then _ else bad5) = _ ∨ ∃ lo' d' r', (if rightB lo d then _ else bad5) = _
    cases rightB lo d with
    | true => exact .inr (.inr ⟨lo, d, r, rfl⟩)
    | false => exact .inr (.inl rfl)

theorem rcpath3_any (s : ByteArray) (hs : s.size ≤ 1000000000) (w : World) :
    Calls Tryz.prog 78 #[.int .i64 3, .string s] w fun e w' => e = .returned (cmdV (refPathL 3 s.data.toList)) ∧ Below w.heap.size w w' := by
  have cf := fun W => rfront_any s ⟨#[32, 102, 114, 111, 109, 58]⟩ (by omega) W
  change ∀ W, Calls _ _ _ W (fun e w' => e = .returned (.bool (frontL s.data.toList fromT)) ∧ _) at cf
  have hM : refPathL 3 s.data.toList = mailT (cpathL s.data.toList fromT) := rfl
  cases hfr : frontL s.data.toList fromT with
  | false =>
    rw [hfr] at cf
    have hc : cpathL s.data.toList fromT = ([], [], [], false) := by unfold cpathL; rw [hfr]; rfl
    rw [hM, hc]
    exact rp3_nofront s cf w
  | true =>
    rw [hfr] at cf
    have hn : 6 ≤ s.size := by
      simp only [frontL, Bool.and_eq_true, decide_eq_true_eq] at hfr
      have := hfr.1
      rw [len_eq] at this
      exact this
    generalize ht : s.extract 6 s.size = t
    have htl : s.data.toList.drop 6 = t.data.toList := by rw [← ht, extract_end]
    have htz : t.size ≤ s.size := by rw [← ht, ByteArray.size_extract]; omega
    have ctr := fun W => rtrim_any t (by omega) W
    generalize hu : (⟨(Lib.trimLeftB t.data.toList 32).toArray⟩ : ByteArray) = u at ctr
    have hul : u.data.toList = Lib.trimLeftB t.data.toList 32 := by rw [← hu]
    have huz : u.size ≤ t.size := by rw [← len_eq, hul, ← len_eq t]; exact trimLeftB_len _ _
    have cp := fun W => rpath_any u (by omega) W
    have hc : cpathL s.data.toList fromT = (match pathL u.data.toList with
        | (lo, d, r, e) => (lo, d, r, e == 0)) := by
      unfold cpathL; rw [hfr, if_pos rfl]; show (match pathL (Lib.trimLeftB (s.data.toList.drop 6) 32) with | (lo, d, r, e) => (lo, d, r, e == 0)) = _
      rw [htl, ← hul]
    rw [hM, hc]
    rcases path_cases u.data.toList with h | h | ⟨lo, d, r, h⟩
    · rw [h] at cp ⊢
      exact rp3_bad3 s t u (by omega) hn ht cf ctr cp w
    · rw [h] at cp ⊢
      exact rp3_bad5 s t u (by omega) hn ht cf ctr cp w
    · have hrl := pathL_len u.data.toList
      rw [h] at cp hrl ⊢
      have hrz : (⟨r.toArray⟩ : ByteArray).size ≤ 2000000000 := by rw [← len_eq]; rw [len_eq u] at hrl; simp at hrl ⊢; omega
      have hcase : ∀ x : List UInt8, (⟨x.toArray⟩ : ByteArray).toList.isEmpty = x.isEmpty := fun x => by rw [Go.ByteArray.toList_eq]
      have g : Hid (((⟨lo.toArray⟩ : ByteArray).toList.isEmpty = false) ∨ ((⟨lo.toArray⟩ : ByteArray).toList.isEmpty = true ∧ (⟨d.toArray⟩ : ByteArray).toList.isEmpty = false) ∨ ((⟨lo.toArray⟩ : ByteArray).toList.isEmpty = true ∧ (⟨d.toArray⟩ : ByteArray).toList.isEmpty = true)) := Lib.hid (by
        rw [hcase, hcase]; cases lo.isEmpty <;> cases d.isEmpty <;> simp)
      cases r with
      | nil => exact rp3_end s t u ⟨lo.toArray⟩ ⟨d.toArray⟩ (by omega) hn ht cf ctr cp g w
      | cons c q =>
        have cz := fun W => rsize_any ⟨(c :: q).toArray⟩ hrz W
        change ∀ W, Calls _ _ _ W (fun e w' => (∃ v, e = .returned (.tuple #[.int .i64 v, .bool (sizeB (c :: q))]) ∧ (sizeB (c :: q) = true → v = (sizeR (c :: q)).1)) ∧ _) at cz
        have hE : (⟨(c :: q).toArray⟩ : ByteArray).toList.isEmpty = false := tl_empty
        have hr0 : 0 < (⟨(c :: q).toArray⟩ : ByteArray).size := by rw [← len_eq]; simp
        show Calls _ _ _ w (fun e w' => e = .returned (cmdV (if c = 32 then (if sizeB (c :: q) then (3, [], lo, d, (sizeR (c :: q)).1, 0) else cmdE 555) else cmdE 501)) ∧ _)
        cases hsz : sizeB (c :: q) with
        | true =>
          rw [hsz] at cz
          rw [if_pos (sizeB_blank hsz)]
          exact rp3_size s t u ⟨lo.toArray⟩ ⟨d.toArray⟩ ⟨(c :: q).toArray⟩ (by omega) hn ht cf ctr cp g hE _ cz w
        | false =>
          rw [hsz] at cz
          by_cases h32 : c = 32
          · rw [if_pos h32]
            exact rp3_par s t u ⟨lo.toArray⟩ ⟨d.toArray⟩ ⟨(c :: q).toArray⟩ (by omega) hn ht cf ctr cp g hE hr0 (u8_lit _ 32 h32) _ cz w
          · rw [if_neg h32]
            exact rp3_no s t u ⟨lo.toArray⟩ ⟨d.toArray⟩ ⟨(c :: q).toArray⟩ (by omega) hn ht cf ctr cp g hE hr0 (u8_nlit _ 32 h32) _ cz w

theorem rcpath4_any (s : ByteArray) (hs : s.size ≤ 1000000000) (w : World) :
    Calls Tryz.prog 78 #[.int .i64 4, .string s] w fun e w' => e = .returned (cmdV (refPathL 4 s.data.toList)) ∧ Below w.heap.size w w' := by
  have cf := fun W => rfront_any s ⟨#[32, 116, 111, 58]⟩ (by omega) W
  change ∀ W, Calls _ _ _ W (fun e w' => e = .returned (.bool (frontL s.data.toList toT)) ∧ _) at cf
  have hM : refPathL 4 s.data.toList = rcptT (cpathL s.data.toList toT) := rfl
  cases hfr : frontL s.data.toList toT with
  | false =>
    rw [hfr] at cf
    have hc : cpathL s.data.toList toT = ([], [], [], false) := by unfold cpathL; rw [hfr]; rfl
    rw [hM, hc]
    exact rp4_nofront s cf w
  | true =>
    rw [hfr] at cf
    have hn : 4 ≤ s.size := by
      simp only [frontL, Bool.and_eq_true, decide_eq_true_eq] at hfr
      have := hfr.1
      rw [len_eq] at this
      exact this
    generalize ht : s.extract 4 s.size = t
    have htl : s.data.toList.drop 4 = t.data.toList := by rw [← ht, extract_end]
    have htz : t.size ≤ s.size := by rw [← ht, ByteArray.size_extract]; omega
    have ctr := fun W => rtrim_any t (by omega) W
    generalize hu : (⟨(Lib.trimLeftB t.data.toList 32).toArray⟩ : ByteArray) = u at ctr
    have hul : u.data.toList = Lib.trimLeftB t.data.toList 32 := by rw [← hu]
    have huz : u.size ≤ t.size := by rw [← len_eq, hul, ← len_eq t]; exact trimLeftB_len _ _
    have cp := fun W => rpath_any u (by omega) W
    have hc : cpathL s.data.toList toT = (match pathL u.data.toList with
        | (lo, d, r, e) => (lo, d, r, e == 0)) := by
      unfold cpathL; rw [hfr, if_pos rfl]; show (match pathL (Lib.trimLeftB (s.data.toList.drop 4) 32) with | (lo, d, r, e) => (lo, d, r, e == 0)) = _
      rw [htl, ← hul]
    rw [hM, hc]
    rcases path_cases u.data.toList with h | h | ⟨lo, d, r, h⟩
    · rw [h] at cp ⊢
      exact rp4_bad3 s t u (by omega) hn ht cf ctr cp w
    · rw [h] at cp ⊢
      exact rp4_bad5 s t u (by omega) hn ht cf ctr cp w
    · have hrl := pathL_len u.data.toList
      rw [h] at cp hrl ⊢
      have hrz : (⟨r.toArray⟩ : ByteArray).size ≤ 2000000000 := by rw [← len_eq]; rw [len_eq u] at hrl; simp at hrl ⊢; omega
      have hcase : ∀ x : List UInt8, (⟨x.toArray⟩ : ByteArray).toList.isEmpty = x.isEmpty := fun x => by rw [Go.ByteArray.toList_eq]
      cases hnull : nullB lo d with
      | true =>
        simp only [nullB, Bool.and_eq_true, List.isEmpty_iff] at hnull
        obtain ⟨rfl, rfl⟩ := hnull
        exact rp4_null s t u ⟨r.toArray⟩ (by omega) hn ht cf ctr cp w
      | false =>
      have g : Hid (((⟨lo.toArray⟩ : ByteArray).toList.isEmpty = false) ∨ ((⟨lo.toArray⟩ : ByteArray).toList.isEmpty = true ∧ (⟨d.toArray⟩ : ByteArray).toList.isEmpty = false)) := Lib.hid (by
        rw [hcase, hcase]; unfold nullB at hnull; revert hnull; cases lo.isEmpty <;> cases d.isEmpty <;> simp)
      show Calls _ _ _ w (fun e w' => e = .returned (cmdV (rcptT (lo, d, r, true))) ∧ _)
      cases r with
      | nil =>
        have e0 : rcptT (lo, d, [], true) = (4, [], lo, d, 0, 0) := by
          show (if nullB lo d = true then cmdE 501 else (4, [], lo, d, 0, 0)) = _
          rw [hnull]; rfl
        rw [e0]
        exact rp4_end s t u ⟨lo.toArray⟩ ⟨d.toArray⟩ (by omega) hn ht cf ctr cp g w
      | cons c q =>
        have e0 : rcptT (lo, d, c :: q, true) = if c = 32 then cmdE 555 else cmdE 501 := by
          show (if nullB lo d = true then cmdE 501 else if c = 32 then cmdE 555 else cmdE 501) = _
          rw [hnull]; rfl
        rw [e0]
        have cz := fun W => rsize_any ⟨(c :: q).toArray⟩ hrz W
        change ∀ W, Calls _ _ _ W (fun e w' => (∃ v, e = .returned (.tuple #[.int .i64 v, .bool (sizeB (c :: q))]) ∧ (sizeB (c :: q) = true → v = (sizeR (c :: q)).1)) ∧ _) at cz
        have hE : (⟨(c :: q).toArray⟩ : ByteArray).toList.isEmpty = false := tl_empty
        have hr0 : 0 < (⟨(c :: q).toArray⟩ : ByteArray).size := by rw [← len_eq]; simp
        cases hsz : sizeB (c :: q) with
        | true =>
          rw [hsz] at cz
          have h32 := sizeB_blank hsz
          rw [if_pos h32]
          exact rp4_par2 s t u ⟨lo.toArray⟩ ⟨d.toArray⟩ ⟨(c :: q).toArray⟩ (by omega) hn ht cf ctr cp g hE hr0 (u8_lit _ 32 h32) _ cz w
        | false =>
          rw [hsz] at cz
          by_cases h32 : c = 32
          · rw [if_pos h32]
            exact rp4_par s t u ⟨lo.toArray⟩ ⟨d.toArray⟩ ⟨(c :: q).toArray⟩ (by omega) hn ht cf ctr cp g hE hr0 (u8_lit _ 32 h32) _ cz w
          · rw [if_neg h32]
            exact rp4_no s t u ⟨lo.toArray⟩ ⟨d.toArray⟩ ⟨(c :: q).toArray⟩ (by omega) hn ht cf ctr cp g hE hr0 (u8_nlit _ 32 h32) _ cz w

theorem blank_facts (t : ByteArray) (j : Nat) (hlt : j < t.size) (h32 : t[j] = 32) (HJ : ∀ i (h : i < t.size), i < j → t[i] ≠ 32) (HL : ∀ h : 0 < t.size, t[t.size - 1]'(by omega) ≠ 32) :
    ∃ a' rest : ByteArray, t.extract j t.size = rest ∧ rest.extract 1 rest.size = a' ∧ rest.size = t.size - j ∧ a'.size ≤ t.size ∧ Hid (a'.data.toList.isEmpty = false) ∧
      (Lib.cut t.data.toList [32] = (t.data.toList.take j, a'.data.toList, true) ∧ rest.data.toList = t.data.toList.drop j) := by
  have hd := drop_get t j hlt
  have ha : ((t.extract j t.size).extract 1 (t.extract j t.size).size).data.toList = t.data.toList.drop (j + 1) := by rw [extract_end, extract_end, List.drop_drop]
  refine ⟨_, _, rfl, rfl, by rw [ByteArray.size_extract]; omega, by rw [ByteArray.size_extract, ByteArray.size_extract]; omega, Lib.hid ?_, ?_, extract_end t j⟩
  · rw [ha, Bool.eq_false_iff]
    intro h
    rw [List.isEmpty_iff, List.drop_eq_nil_iff, len_eq] at h
    have : j = t.size - 1 := by omega
    subst this
    exact HL (by omega) h32
  · rw [ha]
    have e : t.data.toList = t.data.toList.take j ++ 32 :: t.data.toList.drop (j + 1) := by
      rw [← h32, ← hd, List.take_append_drop]
    have hb : ∀ b ∈ t.data.toList.take j, b ≠ 32 := fun b hb => by
      obtain ⟨i, hi, e⟩ := List.getElem_of_mem hb
      rw [List.length_take, len_eq] at hi
      rw [List.getElem_take] at e
      rw [← e]
      exact HJ i (by omega) (by omega)
    conv => lhs; rw [e]
    exact cut_at _ _ hb

theorem trimRight_take {l : List UInt8} : Lib.trimRightB (l ++ [32]) 32 = Lib.trimRightB l 32 := by
  unfold Lib.trimRightB; rw [List.reverse_append]; rfl
theorem trimRight_stop {l : List UInt8} {c : UInt8} (h : c ≠ 32) : Lib.trimRightB (l ++ [c]) 32 = l ++ [c] := by
  unfold Lib.trimRightB
  rw [List.reverse_append]
  show (List.dropWhile _ (c :: l.reverse)).reverse = _
  rw [List.dropWhile_cons_of_neg (by rw [beq_iff_eq]; exact h)]
  simp
theorem cut_none {t : List UInt8} (h : ∀ b ∈ t, b ≠ 32) : Lib.cut t [32] = (t, [], false) := by
  unfold Lib.cut
  rcases index_one_split 32 t with ⟨h1, _⟩ | ⟨p, q, rfl, _, _⟩
  · rw [h1, if_neg (by decide)]
  · exact absurd rfl (h 32 (by simp))
theorem mem_at {x : ByteArray} {b : UInt8} (h : b ∈ x.data.toList) : ∃ (j : Nat) (hj : j < x.size), x[j] = b := by
  obtain ⟨j, hj, e⟩ := List.getElem_of_mem h
  exact ⟨j, by rw [← len_eq]; exact hj, e⟩
theorem snoc_of (x : ByteArray) (h : 0 < x.size) : x.data.toList = (x.extract 0 (x.size - 1)).data.toList ++ [x[x.size - 1]'(by omega)] := by
  have := take_get x (x.size - 1) (by omega)
  rw [Nat.sub_add_cancel (by omega), List.take_of_length_le (by rw [len_eq]; omega)] at this
  rw [Lib.extract_from_zero]
  exact this

set_option maxHeartbeats 16000000 in
set_option maxRecDepth 100000 in
theorem rparse_any (s : ByteArray) (hs : s.size ≤ 1000000000) (w : World) :
    Calls Tryz.prog 27 #[.string s] w fun e w' => e = .returned (cmdV (parseL s.data.toList)) ∧ Below w.heap.size w w' := by
  go_enter Tryz.func27, Tryz.ntmps27
  go_wp2
  go_loop [4] (fun i => ∃ k : Nat, k ≤ s.size ∧ i = .int .i64 k ∧ Hid (∀ j (h : j < s.size), j < k → visibleB s[j] = true)) (fun i => s.size - (intOf i).toNat)
  case atStart => exact ⟨0, Nat.zero_le _, rfl, Lib.hid (fun j _ hj => absurd hj (Nat.not_lt_zero _))⟩
  case round =>
    obtain ⟨k, hk, rfl, hall⟩ := hrel
    by_cases hlt : k < s.size
    · by_cases hv : 32 ≤ s[k].toNat ∧ s[k].toNat ≤ 126
      · have HV : Hid (visibleB s[k] = true) := Lib.hid (visible_yes hv)
        have v0 : ¬ (s[k].toNat : Int) < 32 := by omega
        have v1 : ¬ (126 : Int) < (s[k].toNat : Int) := by omega
        clear hv
        go_wp2
        go_round
        case rel =>
          refine ⟨k + 1, by omega, by go_num, Lib.hid (fun j h hj => ?_)⟩
          by_cases e : j = k
          · subst e; exact HV.out
          · exact hall.out j h (by omega)
        case measure => simp [intOf]; omega
      · have HV : Hid (parseL s.data.toList = cmdE 500) := Lib.hid (by rw [parseL, not_all_of k hlt (visible_no hv)]; rfl)
        have v0 : (s[k].toNat : Int) < 32 ∨ (¬ (s[k].toNat : Int) < 32 ∧ (126 : Int) < (s[k].toNat : Int)) := by omega
        clear hv
        rcases v0 with v0 | ⟨v0, v1⟩
        all_goals
          go_wp2
          (try simp only [Exit.inBlock, Exit.then])
          refine bodyPost_ret (results_ct5 rfl _ _ w.heap.size _ rfl (cm_new (t := 60) (v0 := .int .i64 0) (v1 := .string ⟨#[]⟩) (v2 := .string ⟨#[]⟩) (v3 := .string ⟨#[]⟩) (v4 := .int .i64 0) (Below.refl _ _)) Tryz.underlying60 rfl (by kernel_rfl)) rfl ?_
          exact ⟨by rw [HV.out]; rfl, belowA (Below.refl _ _) _⟩
    · have hla := Lib.hid (all_of (p := visibleB) (fun j hj => hall.out j hj (by omega)))
      have ilt : ¬ (k : Int) < (s.size : Int) := by omega
      clear hall hlt
      go_wp2
      go_loop [0] (fun v => ∃ x : ByteArray, v = .string x ∧ x.size ≤ s.size ∧ Hid (Lib.trimRightB s.data.toList 32 = Lib.trimRightB x.data.toList 32)) (fun v => strLen v)
      case atStart => exact ⟨s, rfl, Nat.le_refl _, Lib.hid rfl⟩
      case round =>
        obtain ⟨t, rfl, htz, HQ⟩ := hrel
        have go2 : ∀ (hlast : ∀ h : 0 < t.size, t[t.size - 1]'(by omega) ≠ 32) (ht2 : Lib.trimRightB s.data.toList 32 = t.data.toList), True := fun _ _ => trivial
        by_cases hmore : ∃ h : 0 < t.size, t[t.size - 1]'(by omega) = 32
        · obtain ⟨hp, h32⟩ := hmore
          have hE := isEmpty_false hp
          have i1 : (1 : Int) ≤ (t.size : Int) := by omega
          have i2 : ((t.size : Int) - 1).toNat = t.size - 1 := by omega
          have i3 : t.size - 1 < t.size := by omega
          have q0 : (((t[t.size - 1].toNat : Int) == 32) : Bool) = true := u8_lit t[t.size - 1] 32 h32
          have HN : Hid (Lib.trimRightB s.data.toList 32 = Lib.trimRightB (t.extract 0 (t.size - 1)).data.toList 32) := Lib.hid (by rw [HQ.out, snoc_of t hp, h32, trimRight_take])
          have HZ : Hid ((t.extract 0 (t.size - 1)).size = t.size - 1) := Lib.hid (by rw [ByteArray.size_extract]; omega)
          clear h32 go2
          go_wp2
          go_round
          case rel => exact ⟨t.extract 0 (t.size - 1), rfl, by rw [HZ.out]; omega, HN⟩
          case measure => show (t.extract 0 (t.size - 1)).size < t.size; rw [HZ.out]; omega
        · have hlast : ∀ h : 0 < t.size, t[t.size - 1]'(by omega) ≠ 32 := fun h e => hmore ⟨h, e⟩
          have ht2 : Hid (Lib.trimRightB s.data.toList 32 = t.data.toList) := Lib.hid (by
            by_cases hp : 0 < t.size
            · rw [HQ.out, snoc_of t hp, trimRight_stop (hlast hp)]
            · rw [HQ.out, size_zero hp]; rfl)
          have HL := Lib.hid hlast
          have hcase : (0 < t.size ∧ t.toList.isEmpty = false) ∨ t.toList.isEmpty = true := by
            by_cases hp : 0 < t.size
            · exact .inl ⟨hp, isEmpty_false hp⟩
            · exact .inr (by rw [size_zero hp, Go.ByteArray.toList_eq]; rfl)
          clear go2 hmore hlast HQ
          rcases hcase with ⟨hp, hE⟩ | hE
          · have i1 : (1 : Int) ≤ (t.size : Int) := by omega
            have i2 : ((t.size : Int) - 1).toNat = t.size - 1 := by omega
            have i3 : t.size - 1 < t.size := by omega
            have q0 : (((t[t.size - 1].toNat : Int) == 32) : Bool) = false := u8_nlit t[t.size - 1] 32 (HL.out hp)
            go_wp2
            go_loop [5] (fun n => ∃ j : Nat, j ≤ t.size ∧ n = .int .i64 j ∧ Hid (∀ i (h : i < t.size), i < j → t[i] ≠ 32)) (fun n => t.size - (intOf n).toNat)
            case atStart => exact ⟨0, Nat.zero_le _, rfl, Lib.hid (fun j _ hj => absurd hj (Nat.not_lt_zero _))⟩
            case round =>
              obtain ⟨j, hj, rfl, HJ⟩ := hrel
              by_cases hlt : j < t.size
              · have i4 : (j : Int) < (t.size : Int) := by omega
                by_cases h32 : t[j] = 32
                · have q1 : (((t[j].toNat : Int) != 32) : Bool) = false := u8_lit' t[j] 32 h32
                  have i5 : (j : Int) ≤ (t.size : Int) := by omega
                  have i6 : (0 : Int) ≤ (j : Int) := by omega
                  obtain ⟨a', rest, hre, hr1, hr2, ha1, HNE, HC⟩ := blank_facts t j hlt h32 HJ.out HL.out
                  have HA2 : Hid (a' = ⟨a'.data.toList.toArray⟩) := Lib.hid (bstr rfl)
                  obtain ⟨a, ha⟩ : ∃ a, a'.data.toList = a := ⟨_, rfl⟩
                  rw [ha] at HA2 HNE HC
                  have haz : a'.size ≤ s.size := by omega
                  have hrz : rest.size ≤ 1000000000 := by omega
                  have i7 : (1 : Int) ≤ (rest.size : Int) := by omega
                  have hE2 := isEmpty_false (s := rest) (by omega)
                  clear hr2
                  obtain ⟨HC, HCr⟩ := HC
                  have cl := fun W => refLower_walk (t.extract 0 j) (by rw [ByteArray.size_extract]; omega) _ rfl W
                  unfold LowerEnd at cl
                  have hlz : (⟨(lower (t.extract 0 j).data.toList).toArray⟩ : ByteArray).data.toList = lower (t.data.toList.take j) := by rw [Lib.extract_from_zero]
                  generalize (⟨(lower (t.extract 0 j).data.toList).toArray⟩ : ByteArray) = z at cl hlz
                  have ck := fun W => rkind_any z W
                  rw [hlz] at ck
                  have hP : parseL s.data.toList = wordsL (kindL (lower (t.data.toList.take j))) a true rest.data.toList := by
                    rw [parseL, hla.out, if_pos rfl, ht2.out]
                    unfold parseT
                    rw [HC]
                    rw [HCr, List.length_take, len_eq, Nat.min_eq_left (by omega)]
                  have hkl := kindL_le (lower (t.data.toList.take j))
                  have HW : ∀ n, kindL (lower (t.data.toList.take j)) = n → Hid (parseL s.data.toList = wordsL n a true rest.data.toList) := fun n hn => Lib.hid (by rw [hP, hn])
                  clear hP hlz HC HJ HL h32 HCr
                  generalize kindL (lower (t.data.toList.take j)) = n at ck HW hkl
                  revert hkl
                  revert ck HW
                  refine fun ck HW hkl => ten (P := fun n => (∀ W, Calls Tryz.prog 75 #[.string z] W fun e w' => e = .returned (.int .i64 (n : Int)) ∧ Below W.heap.size W w') → (∀ m, n = m → Hid (parseL s.data.toList = wordsL m a true rest.data.toList)) → _) ?_ ?_ ?_ ?_ ?_ ?_ ?_ ?_ ?_ ?_ n hkl ck HW
                  · intro ck HW
                    have HK : Hid (parseL s.data.toList = cmdE 500) := Lib.hid (HW 0 rfl).out
                    go_wp2_with (first | (go_at_call 76; refine (cl _).mono ?_; rintro e w1 ⟨rfl, HB1⟩; have C1 := Lib.hid (cm_new HB1); have B1 := Lib.hid (belowT (belowA (Below.refl _ _) _) HB1)) | (go_at_call 75; refine (ck _).mono ?_; rintro e w2 ⟨rfl, HB2⟩; have C2 := Lib.hid (C1.out.below HB2); have B2 := Lib.hid (belowT B1.out HB2); obtain ⟨p0, p1, p2, p3, p4, p5, p6, p7, p8, p9⟩ := C2.out))
                    (try simp only [Exit.inBlock, Exit.then])
                    refine bodyPost_ret (results_ct5 rfl _ _ w.heap.size _ rfl (C2.out.put (.int .i64 0) (.string ⟨#[]⟩) (.string ⟨#[]⟩) (.string ⟨#[]⟩) (.int .i64 0)) Tryz.underlying60 rfl (by kernel_rfl)) rfl ?_
                    refine ⟨?_, putC_below B2.out (Nat.le_refl _) _ _ _ _ _⟩
                    rw [HK.out]; rfl
                  · intro ck HW
                    have cd := fun W => rdomain_any a' (by omega) W
                    rw [domain_eq, ha] at cd
                    have HK : Hid (parseL s.data.toList = if domainB a then (1, a, [], [], 0, 0) else cmdE 501) := Lib.hid (HW 1 rfl).out
                    cases hdm : domainB a with
                    | true =>
                      have HK2 : Hid (parseL s.data.toList = (1, a, [], [], 0, 0)) := Lib.hid (by rw [HK.out, hdm]; rfl)
                      rw [hdm] at cd
                      clear hdm HK
                      go_wp2_with (first | (go_at_call 76; refine (cl _).mono ?_; rintro e w1 ⟨rfl, HB1⟩; have C1 := Lib.hid (cm_new HB1); have B1 := Lib.hid (belowT (belowA (Below.refl _ _) _) HB1)) | (go_at_call 75; refine (ck _).mono ?_; rintro e w2 ⟨rfl, HB2⟩; have C2 := Lib.hid (C1.out.below HB2); have B2 := Lib.hid (belowT B1.out HB2); obtain ⟨p0, p1, p2, p3, p4, p5, p6, p7, p8, p9⟩ := C2.out) | (go_at_call 77; refine (cd _).mono ?_; rintro e w' ⟨rfl, rfl⟩))
                      (try simp only [Exit.inBlock, Exit.then])
                      refine bodyPost_ret (results_ct5 rfl _ _ w.heap.size _ rfl (C2.out.put (.int .i64 1) (.string a') (.string ⟨#[]⟩) (.string ⟨#[]⟩) (.int .i64 0)) Tryz.underlying60 rfl (by kernel_rfl)) rfl ?_
                      refine ⟨?_, putC_below B2.out (Nat.le_refl _) _ _ _ _ _⟩
                      rw [HK2.out, HA2.out]; rfl
                    | false =>
                      have HK2 : Hid (parseL s.data.toList = cmdE 501) := Lib.hid (by rw [HK.out, hdm]; rfl)
                      rw [hdm] at cd
                      clear hdm HK
                      go_wp2_with (first | (go_at_call 76; refine (cl _).mono ?_; rintro e w1 ⟨rfl, HB1⟩; have C1 := Lib.hid (cm_new HB1); have B1 := Lib.hid (belowT (belowA (Below.refl _ _) _) HB1)) | (go_at_call 75; refine (ck _).mono ?_; rintro e w2 ⟨rfl, HB2⟩; have C2 := Lib.hid (C1.out.below HB2); have B2 := Lib.hid (belowT B1.out HB2); obtain ⟨p0, p1, p2, p3, p4, p5, p6, p7, p8, p9⟩ := C2.out) | (go_at_call 77; refine (cd _).mono ?_; rintro e w' ⟨rfl, rfl⟩))
                      (try simp only [Exit.inBlock, Exit.then])
                      refine bodyPost_ret (results_ct5 rfl _ _ w.heap.size _ rfl (C2.out.put (.int .i64 0) (.string ⟨#[]⟩) (.string ⟨#[]⟩) (.string ⟨#[]⟩) (.int .i64 0)) Tryz.underlying60 rfl (by kernel_rfl)) rfl ?_
                      refine ⟨?_, putC_below B2.out (Nat.le_refl _) _ _ _ _ _⟩
                      rw [HK2.out]; rfl
                  · intro ck HW
                    have cd := fun W => rdomain_any a' (by omega) W
                    rw [domain_eq, ha] at cd
                    have HK : Hid (parseL s.data.toList = if domainB a then (2, a, [], [], 0, 0) else cmdE 501) := Lib.hid (HW 2 rfl).out
                    cases hdm : domainB a with
                    | true =>
                      have HK2 : Hid (parseL s.data.toList = (2, a, [], [], 0, 0)) := Lib.hid (by rw [HK.out, hdm]; rfl)
                      rw [hdm] at cd
                      clear hdm HK
                      go_wp2_with (first | (go_at_call 76; refine (cl _).mono ?_; rintro e w1 ⟨rfl, HB1⟩; have C1 := Lib.hid (cm_new HB1); have B1 := Lib.hid (belowT (belowA (Below.refl _ _) _) HB1)) | (go_at_call 75; refine (ck _).mono ?_; rintro e w2 ⟨rfl, HB2⟩; have C2 := Lib.hid (C1.out.below HB2); have B2 := Lib.hid (belowT B1.out HB2); obtain ⟨p0, p1, p2, p3, p4, p5, p6, p7, p8, p9⟩ := C2.out) | (go_at_call 77; refine (cd _).mono ?_; rintro e w' ⟨rfl, rfl⟩))
                      (try simp only [Exit.inBlock, Exit.then])
                      refine bodyPost_ret (results_ct5 rfl _ _ w.heap.size _ rfl (C2.out.put (.int .i64 2) (.string a') (.string ⟨#[]⟩) (.string ⟨#[]⟩) (.int .i64 0)) Tryz.underlying60 rfl (by kernel_rfl)) rfl ?_
                      refine ⟨?_, putC_below B2.out (Nat.le_refl _) _ _ _ _ _⟩
                      rw [HK2.out, HA2.out]; rfl
                    | false =>
                      have HK2 : Hid (parseL s.data.toList = cmdE 501) := Lib.hid (by rw [HK.out, hdm]; rfl)
                      rw [hdm] at cd
                      clear hdm HK
                      go_wp2_with (first | (go_at_call 76; refine (cl _).mono ?_; rintro e w1 ⟨rfl, HB1⟩; have C1 := Lib.hid (cm_new HB1); have B1 := Lib.hid (belowT (belowA (Below.refl _ _) _) HB1)) | (go_at_call 75; refine (ck _).mono ?_; rintro e w2 ⟨rfl, HB2⟩; have C2 := Lib.hid (C1.out.below HB2); have B2 := Lib.hid (belowT B1.out HB2); obtain ⟨p0, p1, p2, p3, p4, p5, p6, p7, p8, p9⟩ := C2.out) | (go_at_call 77; refine (cd _).mono ?_; rintro e w' ⟨rfl, rfl⟩))
                      (try simp only [Exit.inBlock, Exit.then])
                      refine bodyPost_ret (results_ct5 rfl _ _ w.heap.size _ rfl (C2.out.put (.int .i64 0) (.string ⟨#[]⟩) (.string ⟨#[]⟩) (.string ⟨#[]⟩) (.int .i64 0)) Tryz.underlying60 rfl (by kernel_rfl)) rfl ?_
                      refine ⟨?_, putC_below B2.out (Nat.le_refl _) _ _ _ _ _⟩
                      rw [HK2.out]; rfl
                  · intro ck HW
                    have HK : Hid (parseL s.data.toList = refPathL 3 rest.data.toList) := Lib.hid (HW 3 rfl).out
                    have cm := fun W => rcpath3_any rest hrz W
                    rcases hml : refPathL 3 rest.data.toList with ⟨q0, q1, q2, q3, q4, q5⟩
                    have HK2 : Hid (parseL s.data.toList = (q0, q1, q2, q3, q4, q5)) := Lib.hid (HK.out.trans hml)
                    rw [hml] at cm
                    change ∀ W, Calls _ _ _ W (fun e' w' => e' = Ending.returned (.tuple #[.agg #[.int .i64 q0, .string ⟨q1.toArray⟩, .string ⟨q2.toArray⟩, .string ⟨q3.toArray⟩, .int .i64 q4], .int .i64 q5]) ∧ _) at cm
                    have hk : ∀ x1 x2 x3 : ByteArray, (⟨q1.toArray⟩ : ByteArray) = x1 → (⟨q2.toArray⟩ : ByteArray) = x2 → (⟨q3.toArray⟩ : ByteArray) = x3 → Hid (cmdV (parseL s.data.toList) = .tuple #[.agg #[.int .i64 q0, .string x1, .string x2, .string x3, .int .i64 q4], .int .i64 q5]) := fun x1 x2 x3 h1 h2 h3 => Lib.hid (by rw [HK2.out, ← h1, ← h2, ← h3]; rfl)
                    generalize hx1 : (⟨q1.toArray⟩ : ByteArray) = x1 at cm
                    generalize hx2 : (⟨q2.toArray⟩ : ByteArray) = x2 at cm
                    generalize hx3 : (⟨q3.toArray⟩ : ByteArray) = x3 at cm
                    have HV := hk x1 x2 x3 hx1 hx2 hx3
                    clear hk hx1 hx2 hx3 hml HK HK2
                    go_wp2_with (first | (go_at_call 76; refine (cl _).mono ?_; rintro e w1 ⟨rfl, HB1⟩; have C1 := Lib.hid (cm_new HB1); have B1 := Lib.hid (belowT (belowA (Below.refl _ _) _) HB1)) | (go_at_call 75; refine (ck _).mono ?_; rintro e w2 ⟨rfl, HB2⟩; have C2 := Lib.hid (C1.out.below HB2); have B2 := Lib.hid (belowT B1.out HB2); obtain ⟨p0, p1, p2, p3, p4, p5, p6, p7, p8, p9⟩ := C2.out) | (go_at_call 78; refine (cm _).mono ?_; rintro e w3 ⟨rfl, HB3⟩; have C3 := Lib.hid (C2.out.below HB3); have B3 := Lib.hid (belowT B2.out HB3); obtain ⟨r0, r1, r2, r3, r4, r5, r6, r7, r8, r9⟩ := C3.out))
                    (try simp only [Exit.inBlock, Exit.then])
                    refine bodyPost_ret (results_ct5 rfl _ _ w.heap.size _ rfl (C3.out.put (.int .i64 q0) (.string x1) (.string x2) (.string x3) (.int .i64 q4)) Tryz.underlying60 rfl (by kernel_rfl)) rfl ?_
                    refine ⟨?_, putC_below B3.out (Nat.le_refl _) _ _ _ _ _⟩
                    exact congrArg Ending.returned HV.out.symm
                  · intro ck HW
                    have HK : Hid (parseL s.data.toList = refPathL 4 rest.data.toList) := Lib.hid (HW 4 rfl).out
                    have cm := fun W => rcpath4_any rest hrz W
                    rcases hml : refPathL 4 rest.data.toList with ⟨q0, q1, q2, q3, q4, q5⟩
                    have HK2 : Hid (parseL s.data.toList = (q0, q1, q2, q3, q4, q5)) := Lib.hid (HK.out.trans hml)
                    rw [hml] at cm
                    change ∀ W, Calls _ _ _ W (fun e' w' => e' = Ending.returned (.tuple #[.agg #[.int .i64 q0, .string ⟨q1.toArray⟩, .string ⟨q2.toArray⟩, .string ⟨q3.toArray⟩, .int .i64 q4], .int .i64 q5]) ∧ _) at cm
                    have hk : ∀ x1 x2 x3 : ByteArray, (⟨q1.toArray⟩ : ByteArray) = x1 → (⟨q2.toArray⟩ : ByteArray) = x2 → (⟨q3.toArray⟩ : ByteArray) = x3 → Hid (cmdV (parseL s.data.toList) = .tuple #[.agg #[.int .i64 q0, .string x1, .string x2, .string x3, .int .i64 q4], .int .i64 q5]) := fun x1 x2 x3 h1 h2 h3 => Lib.hid (by rw [HK2.out, ← h1, ← h2, ← h3]; rfl)
                    generalize hx1 : (⟨q1.toArray⟩ : ByteArray) = x1 at cm
                    generalize hx2 : (⟨q2.toArray⟩ : ByteArray) = x2 at cm
                    generalize hx3 : (⟨q3.toArray⟩ : ByteArray) = x3 at cm
                    have HV := hk x1 x2 x3 hx1 hx2 hx3
                    clear hk hx1 hx2 hx3 hml HK HK2
                    go_wp2_with (first | (go_at_call 76; refine (cl _).mono ?_; rintro e w1 ⟨rfl, HB1⟩; have C1 := Lib.hid (cm_new HB1); have B1 := Lib.hid (belowT (belowA (Below.refl _ _) _) HB1)) | (go_at_call 75; refine (ck _).mono ?_; rintro e w2 ⟨rfl, HB2⟩; have C2 := Lib.hid (C1.out.below HB2); have B2 := Lib.hid (belowT B1.out HB2); obtain ⟨p0, p1, p2, p3, p4, p5, p6, p7, p8, p9⟩ := C2.out) | (go_at_call 78; refine (cm _).mono ?_; rintro e w3 ⟨rfl, HB3⟩; have C3 := Lib.hid (C2.out.below HB3); have B3 := Lib.hid (belowT B2.out HB3); obtain ⟨r0, r1, r2, r3, r4, r5, r6, r7, r8, r9⟩ := C3.out))
                    (try simp only [Exit.inBlock, Exit.then])
                    refine bodyPost_ret (results_ct5 rfl _ _ w.heap.size _ rfl (C3.out.put (.int .i64 q0) (.string x1) (.string x2) (.string x3) (.int .i64 q4)) Tryz.underlying60 rfl (by kernel_rfl)) rfl ?_
                    refine ⟨?_, putC_below B3.out (Nat.le_refl _) _ _ _ _ _⟩
                    exact congrArg Ending.returned HV.out.symm
                  · intro ck HW
                    have HK : Hid (parseL s.data.toList = cmdE 501) := Lib.hid (HW 5 rfl).out
                    go_wp2_with (first | (go_at_call 76; refine (cl _).mono ?_; rintro e w1 ⟨rfl, HB1⟩; have C1 := Lib.hid (cm_new HB1); have B1 := Lib.hid (belowT (belowA (Below.refl _ _) _) HB1)) | (go_at_call 75; refine (ck _).mono ?_; rintro e w2 ⟨rfl, HB2⟩; have C2 := Lib.hid (C1.out.below HB2); have B2 := Lib.hid (belowT B1.out HB2); obtain ⟨p0, p1, p2, p3, p4, p5, p6, p7, p8, p9⟩ := C2.out))
                    (try simp only [Exit.inBlock, Exit.then])
                    refine bodyPost_ret (results_ct5 rfl _ _ w.heap.size _ rfl (C2.out.put (.int .i64 0) (.string ⟨#[]⟩) (.string ⟨#[]⟩) (.string ⟨#[]⟩) (.int .i64 0)) Tryz.underlying60 rfl (by kernel_rfl)) rfl ?_
                    refine ⟨?_, putC_below B2.out (Nat.le_refl _) _ _ _ _ _⟩
                    rw [HK.out]; rfl
                  · intro ck HW
                    have HK : Hid (parseL s.data.toList = cmdE 501) := Lib.hid (HW 6 rfl).out
                    go_wp2_with (first | (go_at_call 76; refine (cl _).mono ?_; rintro e w1 ⟨rfl, HB1⟩; have C1 := Lib.hid (cm_new HB1); have B1 := Lib.hid (belowT (belowA (Below.refl _ _) _) HB1)) | (go_at_call 75; refine (ck _).mono ?_; rintro e w2 ⟨rfl, HB2⟩; have C2 := Lib.hid (C1.out.below HB2); have B2 := Lib.hid (belowT B1.out HB2); obtain ⟨p0, p1, p2, p3, p4, p5, p6, p7, p8, p9⟩ := C2.out))
                    (try simp only [Exit.inBlock, Exit.then])
                    refine bodyPost_ret (results_ct5 rfl _ _ w.heap.size _ rfl (C2.out.put (.int .i64 0) (.string ⟨#[]⟩) (.string ⟨#[]⟩) (.string ⟨#[]⟩) (.int .i64 0)) Tryz.underlying60 rfl (by kernel_rfl)) rfl ?_
                    refine ⟨?_, putC_below B2.out (Nat.le_refl _) _ _ _ _ _⟩
                    rw [HK.out]; rfl
                  · intro ck HW
                    have HK : Hid (parseL s.data.toList = (7, a, [], [], 0, 0)) := Lib.hid (HW 7 rfl).out
                    go_wp2_with (first | (go_at_call 76; refine (cl _).mono ?_; rintro e w1 ⟨rfl, HB1⟩; have C1 := Lib.hid (cm_new HB1); have B1 := Lib.hid (belowT (belowA (Below.refl _ _) _) HB1)) | (go_at_call 75; refine (ck _).mono ?_; rintro e w2 ⟨rfl, HB2⟩; have C2 := Lib.hid (C1.out.below HB2); have B2 := Lib.hid (belowT B1.out HB2); obtain ⟨p0, p1, p2, p3, p4, p5, p6, p7, p8, p9⟩ := C2.out))
                    (try simp only [Exit.inBlock, Exit.then])
                    refine bodyPost_ret (results_ct5 rfl _ _ w.heap.size _ rfl (C2.out.put (.int .i64 7) (.string a') (.string ⟨#[]⟩) (.string ⟨#[]⟩) (.int .i64 0)) Tryz.underlying60 rfl (by kernel_rfl)) rfl ?_
                    refine ⟨?_, putC_below B2.out (Nat.le_refl _) _ _ _ _ _⟩
                    rw [HK.out, HA2.out]; rfl
                  · intro ck HW
                    have HK : Hid (parseL s.data.toList = cmdE 501) := Lib.hid (HW 8 rfl).out
                    go_wp2_with (first | (go_at_call 76; refine (cl _).mono ?_; rintro e w1 ⟨rfl, HB1⟩; have C1 := Lib.hid (cm_new HB1); have B1 := Lib.hid (belowT (belowA (Below.refl _ _) _) HB1)) | (go_at_call 75; refine (ck _).mono ?_; rintro e w2 ⟨rfl, HB2⟩; have C2 := Lib.hid (C1.out.below HB2); have B2 := Lib.hid (belowT B1.out HB2); obtain ⟨p0, p1, p2, p3, p4, p5, p6, p7, p8, p9⟩ := C2.out))
                    (try simp only [Exit.inBlock, Exit.then])
                    refine bodyPost_ret (results_ct5 rfl _ _ w.heap.size _ rfl (C2.out.put (.int .i64 0) (.string ⟨#[]⟩) (.string ⟨#[]⟩) (.string ⟨#[]⟩) (.int .i64 0)) Tryz.underlying60 rfl (by kernel_rfl)) rfl ?_
                    refine ⟨?_, putC_below B2.out (Nat.le_refl _) _ _ _ _ _⟩
                    rw [HK.out]; rfl
                  · intro ck HW
                    have HK : Hid (parseL s.data.toList = (9, a, [], [], 0, 0)) := Lib.hid (by rw [(HW 9 rfl).out]; show (if a.isEmpty then cmdE 501 else (9, a, [], [], 0, 0)) = _; rw [HNE.out]; rfl)
                    go_wp2_with (first | (go_at_call 76; refine (cl _).mono ?_; rintro e w1 ⟨rfl, HB1⟩; have C1 := Lib.hid (cm_new HB1); have B1 := Lib.hid (belowT (belowA (Below.refl _ _) _) HB1)) | (go_at_call 75; refine (ck _).mono ?_; rintro e w2 ⟨rfl, HB2⟩; have C2 := Lib.hid (C1.out.below HB2); have B2 := Lib.hid (belowT B1.out HB2); obtain ⟨p0, p1, p2, p3, p4, p5, p6, p7, p8, p9⟩ := C2.out))
                    (try simp only [Exit.inBlock, Exit.then])
                    refine bodyPost_ret (results_ct5 rfl _ _ w.heap.size _ rfl (C2.out.put (.int .i64 9) (.string a') (.string ⟨#[]⟩) (.string ⟨#[]⟩) (.int .i64 0)) Tryz.underlying60 rfl (by kernel_rfl)) rfl ?_
                    refine ⟨?_, putC_below B2.out (Nat.le_refl _) _ _ _ _ _⟩
                    rw [HK.out, HA2.out]; rfl
                · have q1 : (((t[j].toNat : Int) != 32) : Bool) = true := u8_nlit' t[j] 32 h32
                  have HJ2 : Hid (∀ i (h : i < t.size), i < j + 1 → t[i] ≠ 32) := Lib.hid (fun i h hi => by
                    by_cases e : i = j
                    · subst e; exact h32
                    · exact HJ.out i h (by omega))
                  clear h32
                  go_wp2
                  go_round
                  case rel => exact ⟨j + 1, hlt, by go_num, HJ2⟩
                  case measure => simp [intOf]; omega
              · have i4 : ¬ (j : Int) < (t.size : Int) := by omega
                have i5 : (j : Int) ≤ (t.size : Int) := by omega
                have i6 : (0 : Int) ≤ (j : Int) := by omega
                have hre : t.extract j t.size = ⟨#[]⟩ := bstr (by rw [extract_end, List.drop_of_length_le (by rw [len_eq]; omega)])
                have HC : Lib.cut t.data.toList [32] = (t.data.toList.take j, [], false) := by
                  rw [cut_none (fun b hb => by obtain ⟨i, hi, e⟩ := mem_at hb; rw [← e]; exact HJ.out i hi (by omega)), List.take_of_length_le (by rw [len_eq]; omega)]
                have hdr : t.data.toList.drop (t.data.toList.take j).length = [] := by rw [List.length_take, len_eq, List.drop_of_length_le (by rw [len_eq]; omega)]
                obtain ⟨rest, hrest⟩ : ∃ r : ByteArray, r = ⟨#[]⟩ := ⟨_, rfl⟩
                have hrz : rest.size ≤ 1000000000 := by rw [hrest]; decide
                have cl := fun W => refLower_walk (t.extract 0 j) (by rw [ByteArray.size_extract]; omega) _ rfl W
                unfold LowerEnd at cl
                have hlz : (⟨(lower (t.extract 0 j).data.toList).toArray⟩ : ByteArray).data.toList = lower (t.data.toList.take j) := by rw [Lib.extract_from_zero]
                generalize (⟨(lower (t.extract 0 j).data.toList).toArray⟩ : ByteArray) = z at cl hlz
                have ck := fun W => rkind_any z W
                rw [hlz] at ck
                have hP : parseL s.data.toList = wordsL (kindL (lower (t.data.toList.take j))) [] false rest.data.toList := by
                  rw [parseL, hla.out, if_pos rfl, ht2.out]
                  unfold parseT
                  rw [HC]
                  rw [hdr, hrest]
                have hkl := kindL_le (lower (t.data.toList.take j))
                have HW : ∀ n, kindL (lower (t.data.toList.take j)) = n → Hid (parseL s.data.toList = wordsL n [] false rest.data.toList) := fun n hn => Lib.hid (by rw [hP, hn])
                clear hP hlz HC HJ HL hdr hlt
                generalize kindL (lower (t.data.toList.take j)) = n at ck HW hkl
                revert hkl
                revert ck HW
                refine fun ck HW hkl => ten (P := fun n => (∀ W, Calls Tryz.prog 75 #[.string z] W fun e w' => e = .returned (.int .i64 (n : Int)) ∧ Below W.heap.size W w') → (∀ m, n = m → Hid (parseL s.data.toList = wordsL m [] false rest.data.toList)) → _) ?_ ?_ ?_ ?_ ?_ ?_ ?_ ?_ ?_ ?_ n hkl ck HW
                · intro ck HW
                  subst hrest
                  have HK : Hid (parseL s.data.toList = cmdE 500) := Lib.hid (HW 0 rfl).out
                  go_wp2_with (first | (go_at_call 76; refine (cl _).mono ?_; rintro e w1 ⟨rfl, HB1⟩; have C1 := Lib.hid (cm_new HB1); have B1 := Lib.hid (belowT (belowA (Below.refl _ _) _) HB1)) | (go_at_call 75; refine (ck _).mono ?_; rintro e w2 ⟨rfl, HB2⟩; have C2 := Lib.hid (C1.out.below HB2); have B2 := Lib.hid (belowT B1.out HB2); obtain ⟨p0, p1, p2, p3, p4, p5, p6, p7, p8, p9⟩ := C2.out))
                  (try simp only [Exit.inBlock, Exit.then])
                  refine bodyPost_ret (results_ct5 rfl _ _ w.heap.size _ rfl (C2.out.put (.int .i64 0) (.string ⟨#[]⟩) (.string ⟨#[]⟩) (.string ⟨#[]⟩) (.int .i64 0)) Tryz.underlying60 rfl (by kernel_rfl)) rfl ?_
                  refine ⟨?_, putC_below B2.out (Nat.le_refl _) _ _ _ _ _⟩
                  rw [HK.out]; rfl
                · intro ck HW
                  subst hrest
                  have HK : Hid (parseL s.data.toList = cmdE 501) := Lib.hid (HW 1 rfl).out
                  go_wp2_with (first | (go_at_call 76; refine (cl _).mono ?_; rintro e w1 ⟨rfl, HB1⟩; have C1 := Lib.hid (cm_new HB1); have B1 := Lib.hid (belowT (belowA (Below.refl _ _) _) HB1)) | (go_at_call 75; refine (ck _).mono ?_; rintro e w2 ⟨rfl, HB2⟩; have C2 := Lib.hid (C1.out.below HB2); have B2 := Lib.hid (belowT B1.out HB2); obtain ⟨p0, p1, p2, p3, p4, p5, p6, p7, p8, p9⟩ := C2.out))
                  (try simp only [Exit.inBlock, Exit.then])
                  refine bodyPost_ret (results_ct5 rfl _ _ w.heap.size _ rfl (C2.out.put (.int .i64 0) (.string ⟨#[]⟩) (.string ⟨#[]⟩) (.string ⟨#[]⟩) (.int .i64 0)) Tryz.underlying60 rfl (by kernel_rfl)) rfl ?_
                  refine ⟨?_, putC_below B2.out (Nat.le_refl _) _ _ _ _ _⟩
                  rw [HK.out]; rfl
                · intro ck HW
                  subst hrest
                  have HK : Hid (parseL s.data.toList = cmdE 501) := Lib.hid (HW 2 rfl).out
                  go_wp2_with (first | (go_at_call 76; refine (cl _).mono ?_; rintro e w1 ⟨rfl, HB1⟩; have C1 := Lib.hid (cm_new HB1); have B1 := Lib.hid (belowT (belowA (Below.refl _ _) _) HB1)) | (go_at_call 75; refine (ck _).mono ?_; rintro e w2 ⟨rfl, HB2⟩; have C2 := Lib.hid (C1.out.below HB2); have B2 := Lib.hid (belowT B1.out HB2); obtain ⟨p0, p1, p2, p3, p4, p5, p6, p7, p8, p9⟩ := C2.out))
                  (try simp only [Exit.inBlock, Exit.then])
                  refine bodyPost_ret (results_ct5 rfl _ _ w.heap.size _ rfl (C2.out.put (.int .i64 0) (.string ⟨#[]⟩) (.string ⟨#[]⟩) (.string ⟨#[]⟩) (.int .i64 0)) Tryz.underlying60 rfl (by kernel_rfl)) rfl ?_
                  refine ⟨?_, putC_below B2.out (Nat.le_refl _) _ _ _ _ _⟩
                  rw [HK.out]; rfl
                · intro ck HW
                  subst hrest
                  have HK : Hid (parseL s.data.toList = refPathL 3 (⟨#[]⟩ : ByteArray).data.toList) := Lib.hid (HW 3 rfl).out
                  have cm := fun W => rcpath3_any ⟨#[]⟩ hrz W
                  rcases hml : refPathL 3 (⟨#[]⟩ : ByteArray).data.toList with ⟨q0, q1, q2, q3, q4, q5⟩
                  have HK2 : Hid (parseL s.data.toList = (q0, q1, q2, q3, q4, q5)) := Lib.hid (HK.out.trans hml)
                  rw [hml] at cm
                  change ∀ W, Calls _ _ _ W (fun e' w' => e' = Ending.returned (.tuple #[.agg #[.int .i64 q0, .string ⟨q1.toArray⟩, .string ⟨q2.toArray⟩, .string ⟨q3.toArray⟩, .int .i64 q4], .int .i64 q5]) ∧ _) at cm
                  have hk : ∀ x1 x2 x3 : ByteArray, (⟨q1.toArray⟩ : ByteArray) = x1 → (⟨q2.toArray⟩ : ByteArray) = x2 → (⟨q3.toArray⟩ : ByteArray) = x3 → Hid (cmdV (parseL s.data.toList) = .tuple #[.agg #[.int .i64 q0, .string x1, .string x2, .string x3, .int .i64 q4], .int .i64 q5]) := fun x1 x2 x3 h1 h2 h3 => Lib.hid (by rw [HK2.out, ← h1, ← h2, ← h3]; rfl)
                  generalize hx1 : (⟨q1.toArray⟩ : ByteArray) = x1 at cm
                  generalize hx2 : (⟨q2.toArray⟩ : ByteArray) = x2 at cm
                  generalize hx3 : (⟨q3.toArray⟩ : ByteArray) = x3 at cm
                  have HV := hk x1 x2 x3 hx1 hx2 hx3
                  clear hk hx1 hx2 hx3 hml HK HK2
                  go_wp2_with (first | (go_at_call 76; refine (cl _).mono ?_; rintro e w1 ⟨rfl, HB1⟩; have C1 := Lib.hid (cm_new HB1); have B1 := Lib.hid (belowT (belowA (Below.refl _ _) _) HB1)) | (go_at_call 75; refine (ck _).mono ?_; rintro e w2 ⟨rfl, HB2⟩; have C2 := Lib.hid (C1.out.below HB2); have B2 := Lib.hid (belowT B1.out HB2); obtain ⟨p0, p1, p2, p3, p4, p5, p6, p7, p8, p9⟩ := C2.out) | (go_at_call 78; refine (cm _).mono ?_; rintro e w3 ⟨rfl, HB3⟩; have C3 := Lib.hid (C2.out.below HB3); have B3 := Lib.hid (belowT B2.out HB3); obtain ⟨r0, r1, r2, r3, r4, r5, r6, r7, r8, r9⟩ := C3.out))
                  (try simp only [Exit.inBlock, Exit.then])
                  refine bodyPost_ret (results_ct5 rfl _ _ w.heap.size _ rfl (C3.out.put (.int .i64 q0) (.string x1) (.string x2) (.string x3) (.int .i64 q4)) Tryz.underlying60 rfl (by kernel_rfl)) rfl ?_
                  refine ⟨?_, putC_below B3.out (Nat.le_refl _) _ _ _ _ _⟩
                  exact congrArg Ending.returned HV.out.symm
                · intro ck HW
                  subst hrest
                  have HK : Hid (parseL s.data.toList = refPathL 4 (⟨#[]⟩ : ByteArray).data.toList) := Lib.hid (HW 4 rfl).out
                  have cm := fun W => rcpath4_any ⟨#[]⟩ hrz W
                  rcases hml : refPathL 4 (⟨#[]⟩ : ByteArray).data.toList with ⟨q0, q1, q2, q3, q4, q5⟩
                  have HK2 : Hid (parseL s.data.toList = (q0, q1, q2, q3, q4, q5)) := Lib.hid (HK.out.trans hml)
                  rw [hml] at cm
                  change ∀ W, Calls _ _ _ W (fun e' w' => e' = Ending.returned (.tuple #[.agg #[.int .i64 q0, .string ⟨q1.toArray⟩, .string ⟨q2.toArray⟩, .string ⟨q3.toArray⟩, .int .i64 q4], .int .i64 q5]) ∧ _) at cm
                  have hk : ∀ x1 x2 x3 : ByteArray, (⟨q1.toArray⟩ : ByteArray) = x1 → (⟨q2.toArray⟩ : ByteArray) = x2 → (⟨q3.toArray⟩ : ByteArray) = x3 → Hid (cmdV (parseL s.data.toList) = .tuple #[.agg #[.int .i64 q0, .string x1, .string x2, .string x3, .int .i64 q4], .int .i64 q5]) := fun x1 x2 x3 h1 h2 h3 => Lib.hid (by rw [HK2.out, ← h1, ← h2, ← h3]; rfl)
                  generalize hx1 : (⟨q1.toArray⟩ : ByteArray) = x1 at cm
                  generalize hx2 : (⟨q2.toArray⟩ : ByteArray) = x2 at cm
                  generalize hx3 : (⟨q3.toArray⟩ : ByteArray) = x3 at cm
                  have HV := hk x1 x2 x3 hx1 hx2 hx3
                  clear hk hx1 hx2 hx3 hml HK HK2
                  go_wp2_with (first | (go_at_call 76; refine (cl _).mono ?_; rintro e w1 ⟨rfl, HB1⟩; have C1 := Lib.hid (cm_new HB1); have B1 := Lib.hid (belowT (belowA (Below.refl _ _) _) HB1)) | (go_at_call 75; refine (ck _).mono ?_; rintro e w2 ⟨rfl, HB2⟩; have C2 := Lib.hid (C1.out.below HB2); have B2 := Lib.hid (belowT B1.out HB2); obtain ⟨p0, p1, p2, p3, p4, p5, p6, p7, p8, p9⟩ := C2.out) | (go_at_call 78; refine (cm _).mono ?_; rintro e w3 ⟨rfl, HB3⟩; have C3 := Lib.hid (C2.out.below HB3); have B3 := Lib.hid (belowT B2.out HB3); obtain ⟨r0, r1, r2, r3, r4, r5, r6, r7, r8, r9⟩ := C3.out))
                  (try simp only [Exit.inBlock, Exit.then])
                  refine bodyPost_ret (results_ct5 rfl _ _ w.heap.size _ rfl (C3.out.put (.int .i64 q0) (.string x1) (.string x2) (.string x3) (.int .i64 q4)) Tryz.underlying60 rfl (by kernel_rfl)) rfl ?_
                  refine ⟨?_, putC_below B3.out (Nat.le_refl _) _ _ _ _ _⟩
                  exact congrArg Ending.returned HV.out.symm
                · intro ck HW
                  subst hrest
                  have HK : Hid (parseL s.data.toList = (5, [], [], [], 0, 0)) := Lib.hid (HW 5 rfl).out
                  go_wp2_with (first | (go_at_call 76; refine (cl _).mono ?_; rintro e w1 ⟨rfl, HB1⟩; have C1 := Lib.hid (cm_new HB1); have B1 := Lib.hid (belowT (belowA (Below.refl _ _) _) HB1)) | (go_at_call 75; refine (ck _).mono ?_; rintro e w2 ⟨rfl, HB2⟩; have C2 := Lib.hid (C1.out.below HB2); have B2 := Lib.hid (belowT B1.out HB2); obtain ⟨p0, p1, p2, p3, p4, p5, p6, p7, p8, p9⟩ := C2.out))
                  (try simp only [Exit.inBlock, Exit.then])
                  refine bodyPost_ret (results_ct5 rfl _ _ w.heap.size _ rfl (C2.out.put (.int .i64 5) (.string ⟨#[]⟩) (.string ⟨#[]⟩) (.string ⟨#[]⟩) (.int .i64 0)) Tryz.underlying60 rfl (by kernel_rfl)) rfl ?_
                  refine ⟨?_, putC_below B2.out (Nat.le_refl _) _ _ _ _ _⟩
                  rw [HK.out]; rfl
                · intro ck HW
                  subst hrest
                  have HK : Hid (parseL s.data.toList = (6, [], [], [], 0, 0)) := Lib.hid (HW 6 rfl).out
                  go_wp2_with (first | (go_at_call 76; refine (cl _).mono ?_; rintro e w1 ⟨rfl, HB1⟩; have C1 := Lib.hid (cm_new HB1); have B1 := Lib.hid (belowT (belowA (Below.refl _ _) _) HB1)) | (go_at_call 75; refine (ck _).mono ?_; rintro e w2 ⟨rfl, HB2⟩; have C2 := Lib.hid (C1.out.below HB2); have B2 := Lib.hid (belowT B1.out HB2); obtain ⟨p0, p1, p2, p3, p4, p5, p6, p7, p8, p9⟩ := C2.out))
                  (try simp only [Exit.inBlock, Exit.then])
                  refine bodyPost_ret (results_ct5 rfl _ _ w.heap.size _ rfl (C2.out.put (.int .i64 6) (.string ⟨#[]⟩) (.string ⟨#[]⟩) (.string ⟨#[]⟩) (.int .i64 0)) Tryz.underlying60 rfl (by kernel_rfl)) rfl ?_
                  refine ⟨?_, putC_below B2.out (Nat.le_refl _) _ _ _ _ _⟩
                  rw [HK.out]; rfl
                · intro ck HW
                  subst hrest
                  have HK : Hid (parseL s.data.toList = (7, [], [], [], 0, 0)) := Lib.hid (HW 7 rfl).out
                  go_wp2_with (first | (go_at_call 76; refine (cl _).mono ?_; rintro e w1 ⟨rfl, HB1⟩; have C1 := Lib.hid (cm_new HB1); have B1 := Lib.hid (belowT (belowA (Below.refl _ _) _) HB1)) | (go_at_call 75; refine (ck _).mono ?_; rintro e w2 ⟨rfl, HB2⟩; have C2 := Lib.hid (C1.out.below HB2); have B2 := Lib.hid (belowT B1.out HB2); obtain ⟨p0, p1, p2, p3, p4, p5, p6, p7, p8, p9⟩ := C2.out))
                  (try simp only [Exit.inBlock, Exit.then])
                  refine bodyPost_ret (results_ct5 rfl _ _ w.heap.size _ rfl (C2.out.put (.int .i64 7) (.string ⟨#[]⟩) (.string ⟨#[]⟩) (.string ⟨#[]⟩) (.int .i64 0)) Tryz.underlying60 rfl (by kernel_rfl)) rfl ?_
                  refine ⟨?_, putC_below B2.out (Nat.le_refl _) _ _ _ _ _⟩
                  rw [HK.out]; rfl
                · intro ck HW
                  subst hrest
                  have HK : Hid (parseL s.data.toList = (8, [], [], [], 0, 0)) := Lib.hid (HW 8 rfl).out
                  go_wp2_with (first | (go_at_call 76; refine (cl _).mono ?_; rintro e w1 ⟨rfl, HB1⟩; have C1 := Lib.hid (cm_new HB1); have B1 := Lib.hid (belowT (belowA (Below.refl _ _) _) HB1)) | (go_at_call 75; refine (ck _).mono ?_; rintro e w2 ⟨rfl, HB2⟩; have C2 := Lib.hid (C1.out.below HB2); have B2 := Lib.hid (belowT B1.out HB2); obtain ⟨p0, p1, p2, p3, p4, p5, p6, p7, p8, p9⟩ := C2.out))
                  (try simp only [Exit.inBlock, Exit.then])
                  refine bodyPost_ret (results_ct5 rfl _ _ w.heap.size _ rfl (C2.out.put (.int .i64 8) (.string ⟨#[]⟩) (.string ⟨#[]⟩) (.string ⟨#[]⟩) (.int .i64 0)) Tryz.underlying60 rfl (by kernel_rfl)) rfl ?_
                  refine ⟨?_, putC_below B2.out (Nat.le_refl _) _ _ _ _ _⟩
                  rw [HK.out]; rfl
                · intro ck HW
                  subst hrest
                  have HK : Hid (parseL s.data.toList = cmdE 501) := Lib.hid (HW 9 rfl).out
                  go_wp2_with (first | (go_at_call 76; refine (cl _).mono ?_; rintro e w1 ⟨rfl, HB1⟩; have C1 := Lib.hid (cm_new HB1); have B1 := Lib.hid (belowT (belowA (Below.refl _ _) _) HB1)) | (go_at_call 75; refine (ck _).mono ?_; rintro e w2 ⟨rfl, HB2⟩; have C2 := Lib.hid (C1.out.below HB2); have B2 := Lib.hid (belowT B1.out HB2); obtain ⟨p0, p1, p2, p3, p4, p5, p6, p7, p8, p9⟩ := C2.out))
                  (try simp only [Exit.inBlock, Exit.then])
                  refine bodyPost_ret (results_ct5 rfl _ _ w.heap.size _ rfl (C2.out.put (.int .i64 0) (.string ⟨#[]⟩) (.string ⟨#[]⟩) (.string ⟨#[]⟩) (.int .i64 0)) Tryz.underlying60 rfl (by kernel_rfl)) rfl ?_
                  refine ⟨?_, putC_below B2.out (Nat.le_refl _) _ _ _ _ _⟩
                  rw [HK.out]; rfl
          · obtain rfl : t = ⟨#[]⟩ := bytes_empty (by rw [← Go.ByteArray.toList_eq]; exact List.isEmpty_iff.1 hE)
            have HF : Hid (parseL s.data.toList = cmdE 500) := Lib.hid (by rw [parseL, hla.out, if_pos rfl, ht2.out]; decide +kernel)
            have cl := fun W => refLower_walk ⟨#[]⟩ (by decide) _ rfl W
            unfold LowerEnd at cl
            have ck := fun W => rkind_any ⟨(lower (⟨#[]⟩ : ByteArray).data.toList).toArray⟩ W
            change ∀ W, Calls _ _ _ W (fun e w' => e = Ending.returned (.int .i64 ((0 : Nat) : Int)) ∧ _) at ck
            generalize (⟨(lower (⟨#[]⟩ : ByteArray).data.toList).toArray⟩ : ByteArray) = z at cl ck
            clear hE HL ht2 hla
            go_wp2
            go_loop [5] (fun n => n = .int .i64 0) (fun _ => 0)
            case atStart => exact rfl
            case round =>
              obtain rfl := hrel
              go_wp2_with (first | (go_at_call 76; refine (cl _).mono ?_; rintro e w1 ⟨rfl, HB1⟩; have C1 := Lib.hid (cm_new HB1); have B1 := Lib.hid (belowT (belowA (Below.refl _ _) _) HB1)) | (go_at_call 75; refine (ck _).mono ?_; rintro e w2 ⟨rfl, HB2⟩; have C2 := Lib.hid (C1.out.below HB2); have B2 := Lib.hid (belowT B1.out HB2); obtain ⟨p0, p1, p2, p3, p4, p5, p6, p7, p8, p9⟩ := C2.out))
              (try simp only [Exit.inBlock, Exit.then])
              refine bodyPost_ret (results_ct5 rfl _ _ w.heap.size _ rfl (C2.out.put (.int .i64 0) (.string ⟨#[]⟩) (.string ⟨#[]⟩) (.string ⟨#[]⟩) (.int .i64 0)) Tryz.underlying60 rfl (by kernel_rfl)) rfl ?_
              refine ⟨?_, putC_below B2.out (Nat.le_refl _) _ _ _ _ _⟩
              rw [HF.out]; rfl
end Go.Proofs.YtkmikhinkbbnnaaGreatDoor.M
