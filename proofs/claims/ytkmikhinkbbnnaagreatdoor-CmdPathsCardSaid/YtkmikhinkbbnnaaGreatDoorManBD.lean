/- Package cmd: a line read, by hand. -/
import Derived.Test.YtkmikhinkbbnnaaGreatDoorManBC
namespace Go.Proofs.YtkmikhinkbbnnaaGreatDoor.M
open Go.RowKit Go.Proofs.YtkmikhinkbbnnaaGreatDoor.Sp
attribute [local go_sem ↓] Go.wp_at_zero Go.wp_at_succ

/-- What a word, its argument and what stands behind it come to. -/
def wordsL (k : Nat) (a : List UInt8) (m : Bool) (rest : List UInt8) : CmdR :=
  if k = 0 then cmdE 500 else if k = 3 then mailL rest else if k = 4 then rcptL rest
  else if k = 1 ∨ k = 2 then (if domainB a then (k, a, [], [], 0, 0) else cmdE 501)
  else if k = 9 then (if a.isEmpty then cmdE 501 else (k, a, [], [], 0, 0))
  else if k = 7 then (k, a, [], [], 0, 0)
  else if m then cmdE 501 else (k, a, [], [], 0, 0)
def parseT (t : List UInt8) : CmdR := wordsL (kindL (lower (Lib.cut t [32]).1)) (Lib.cut t [32]).2.1 (Lib.cut t [32]).2.2 (t.drop (Lib.cut t [32]).1.length)
def parseL (l : List UInt8) : CmdR := if l.all visibleB then parseT (Lib.trimRightB l 32) else cmdE 500

theorem kindL_le (l : List UInt8) : kindL l ≤ 9 := by unfold kindL; repeat' split <;> try omega
theorem cut_len (t : List UInt8) (c : UInt8) : (Lib.cut t [c]).1.length ≤ t.length ∧ (Lib.cut t [c]).2.1.length ≤ t.length := by
  unfold Lib.cut
  split
  · simp only [List.length_take, List.length_drop]; omega
  · simp
theorem trimRightB_len (l : List UInt8) (c : UInt8) : (Lib.trimRightB l c).length ≤ l.length := by
  unfold Lib.trimRightB
  rw [List.length_reverse]
  have := (List.dropWhile_sublist (p := (· == c)) (l := l.reverse)).length_le
  rwa [List.length_reverse] at this
theorem ten {P : Nat → Prop} (h0 : P 0) (h1 : P 1) (h2 : P 2) (h3 : P 3) (h4 : P 4) (h5 : P 5) (h6 : P 6) (h7 : P 7) (h8 : P 8) (h9 : P 9) (k : Nat) (hb : k ≤ 9) : P k := by
  match k, hb with
  | 0, _ => exact h0
  | 1, _ => exact h1
  | 2, _ => exact h2
  | 3, _ => exact h3
  | 4, _ => exact h4
  | 5, _ => exact h5
  | 6, _ => exact h6
  | 7, _ => exact h7
  | 8, _ => exact h8
  | 9, _ => exact h9

set_option maxHeartbeats 8000000 in
set_option maxRecDepth 100000 in
theorem parse_any (s : ByteArray) (hs : s.size ≤ 1000000000) (w : World) (hGL : GL w) :
    Calls Tryz.prog 26 #[.string s] w fun e w' => e = .returned (cmdV (parseL s.data.toList)) ∧ Below w.heap.size w w' := by
  go_enter Tryz.func26, Tryz.ntmps26
  go_wp2
  have HCn := Lib.hid (cm_new (w := w) (t := 57) (v0 := .int .i64 0) (v1 := .string ⟨#[]⟩) (v2 := .string ⟨#[]⟩) (v3 := .string ⟨#[]⟩) (v4 := .int .i64 0) (Below.refl _ _))
  go_loopw [4, 13] (fun _ i wr => ∃ k : Nat, k ≤ s.size ∧ i = .int .i64 k ∧ Hid (∀ j (h : j < s.size), j < k → visibleB s[j] = true) ∧ Hid (Cm wr w.heap.size (.int .i64 0) (.string ⟨#[]⟩) (.string ⟨#[]⟩) (.string ⟨#[]⟩) (.int .i64 0)) ∧ Hid (Below w.heap.size w wr)) (fun _ i _ => s.size - (intOf i).toNat)
  case atStart => exact ⟨0, Nat.zero_le _, rfl, Lib.hid (fun j _ hj => absurd hj (Nat.not_lt_zero _)), HCn, Lib.hid (belowA (Below.refl _ _) _)⟩
  case round =>
    obtain ⟨k, hk, rfl, hall, HC, HB⟩ := hrel
    by_cases hlt : k < s.size
    · by_cases hv : 32 ≤ s[k].toNat ∧ s[k].toNat ≤ 126
      · have HV : Hid (visibleB s[k] = true) := Lib.hid (by simp [visibleB, UInt8.le_iff_toNat_le]; exact hv)
        have v0 : ¬ (s[k].toNat : Int) < 32 := by omega
        have v1 : ¬ (126 : Int) < (s[k].toNat : Int) := by omega
        clear hv
        go_wp2
        go_roundw
        case rel =>
          refine ⟨k + 1, by omega, by go_num, Lib.hid (fun j h hj => ?_), HC, HB⟩
          by_cases e : j = k
          · subst e; exact HV.out
          · exact hall.out j h (by omega)
        case measure => simp [intOf]; omega
      · have HV : Hid (parseL s.data.toList = cmdE 500) := Lib.hid (by
          have h1 : visibleB s[k] = false := by rw [Bool.eq_false_iff]; simp [visibleB, UInt8.le_iff_toNat_le]; omega
          rw [parseL, not_all_of k hlt h1]; rfl)
        have v0 : (s[k].toNat : Int) < 32 ∨ (¬ (s[k].toNat : Int) < 32 ∧ (126 : Int) < (s[k].toNat : Int)) := by omega
        obtain ⟨p0, p1, p2, p3, p4, p5, p6, p7, p8, p9⟩ := HC.out
        clear hv
        rcases v0 with v0 | ⟨v0, v1⟩
        all_goals
          go_wp2
          (try simp only [Exit.inBlock, Exit.then])
          refine bodyPost_ret (results_ct5 rfl _ _ w.heap.size _ rfl (HC.out.put (.int .i64 0) (.string ⟨#[]⟩) (.string ⟨#[]⟩) (.string ⟨#[]⟩) (.int .i64 0)) Tryz.underlying57 rfl (by kernel_rfl)) rfl ?_
          refine ⟨?_, putC_below HB.out (Nat.le_refl _) _ _ _ _ _⟩
          rw [HV.out]; rfl
    · have hla := all_of (p := visibleB) (fun j hj => hall.out j hj (by omega))
      have ct := fun W => Tryz.strings_TrimRight_one s 32 (by decide) W (by omega)
      generalize ht : (⟨(Lib.trimRightB s.data.toList 32).toArray⟩ : ByteArray) = t at ct
      have ht2 : t.data.toList = Lib.trimRightB s.data.toList 32 := by rw [← ht]
      have htz : t.size ≤ s.size := by rw [← len_eq, ht2, ← len_eq s]; exact trimRightB_len _ _
      have hct := fun W => (ct W).mono (R' := fun e w' => e = .returned (.string t) ∧ Below W.heap.size W w') (fun e w' h => ⟨h.1, by rw [h.2]; exact Below.refl _ _⟩)
      clear ct
      have ct := hct
      clear hct
      have hcl := cut_len t.data.toList 32
      rw [len_eq] at hcl
      have hcut : strings_Cut.f t ⟨#[32]⟩ = some (⟨(Lib.cut t.data.toList [32]).1.toArray⟩, ⟨(Lib.cut t.data.toList [32]).2.1.toArray⟩, (Lib.cut t.data.toList [32]).2.2) := by
        unfold strings_Cut.f; rw [if_pos (by omega)]
      have cc := fun W (hW : GL W) => strings_Cut.calls t ⟨#[32]⟩ _ _ _ W hW hcut
      have hP : parseL s.data.toList = wordsL (kindL (lower (Lib.cut t.data.toList [32]).1)) (Lib.cut t.data.toList [32]).2.1 (Lib.cut t.data.toList [32]).2.2 (t.data.toList.drop (Lib.cut t.data.toList [32]).1.length) := by
        rw [parseL, hla, if_pos rfl, ← ht2]; rfl
      clear hcut hla ht
      generalize (Lib.cut t.data.toList [32]).1 = h at cc hP hcl
      generalize (Lib.cut t.data.toList [32]).2.1 = a at cc hP hcl
      generalize (Lib.cut t.data.toList [32]).2.2 = m at cc hP
      have hh : (⟨h.toArray⟩ : ByteArray).data.toList = h := rfl
      have ha : (⟨a.toArray⟩ : ByteArray).data.toList = a := rfl
      have haz : (⟨a.toArray⟩ : ByteArray).size ≤ s.size := by rw [← len_eq, ha]; omega
      have hhz : (⟨h.toArray⟩ : ByteArray).size = h.length := by rw [← len_eq, hh]
      have HA20 : ∀ x : ByteArray, (⟨a.toArray⟩ : ByteArray) = x → Hid (x = ⟨a.toArray⟩) := fun x h => Lib.hid h.symm
      generalize (⟨h.toArray⟩ : ByteArray) = h' at cc hh hhz
      generalize ha0 : (⟨a.toArray⟩ : ByteArray) = a' at cc ha haz
      have HA2 := HA20 _ ha0
      clear HA20 ha0
      have cl := fun W => lower_walk h' (by omega) _ rfl W
      have hlz : (⟨(lower h'.data.toList).toArray⟩ : ByteArray).data.toList = lower h := by rw [hh]
      generalize (⟨(lower h'.data.toList).toArray⟩ : ByteArray) = z at cl hlz
      have ck := fun W => kind_any z W
      rw [hlz] at ck
      have hre : (t.extract h'.size t.size).data.toList = t.data.toList.drop h.length := by rw [extract_end, hhz]
      have hrz : (t.extract h'.size t.size).size ≤ 2000000000 := by rw [ByteArray.size_extract]; omega
      have i0 : (0 : Int) ≤ (h'.size : Int) := by omega
      have i1 : (h'.size : Int) ≤ (t.size : Int) := by omega
      generalize hrest : t.extract h'.size t.size = rest' at hre hrz
      rw [← hre] at hP
      have hkl := kindL_le (lower h)
      have HW : ∀ n, kindL (lower h) = n → Hid (parseL s.data.toList = wordsL n a m rest'.data.toList) := fun n hn => Lib.hid (by rw [hP, hn])
      have ilt : ¬ (k : Int) < (s.size : Int) := by omega
      clear hP hre hlz hh hcl htz ht2 hhz
      generalize kindL (lower h) = n at ck HW hkl
      revert hkl
      clear hlt
      revert ck HW
      refine fun ck HW hkl => ten (P := fun n => (∀ W, Calls Tryz.prog 72 #[.string z] W fun e w' => e = .returned (.int .i64 (n : Int)) ∧ Below W.heap.size W w') → (∀ n', n = n' → Hid (parseL s.data.toList = wordsL n' a m rest'.data.toList)) → _) ?_ ?_ ?_ ?_ ?_ ?_ ?_ ?_ ?_ ?_ n hkl ck HW
      · intro ck HW
        have HK := HW 0 rfl
        go_wp2_with (first | (go_at_call 71; refine (ct _).mono ?_; rintro e w1 ⟨rfl, HB1⟩; have C1 := Lib.hid (HC.out.below HB1); have B1 := Lib.hid (belowT HB.out HB1)) | (go_at_call 67; refine (cc _ (hGL.step B1.out)).mono ?_; rintro e w2 ⟨rfl, HB2⟩; have C2 := Lib.hid (C1.out.below HB2); have B2 := Lib.hid (belowT B1.out HB2)) | (go_at_call 69; refine (cl _).mono ?_; rintro e w3 ⟨rfl, HB3⟩; have C3 := Lib.hid (C2.out.below HB3); have B3 := Lib.hid (belowT B2.out HB3)) | (go_at_call 72; refine (ck _).mono ?_; rintro e w4 ⟨rfl, HB4⟩; have C4 := Lib.hid (C3.out.below HB4); have B4 := Lib.hid (belowT B3.out HB4); obtain ⟨p0, p1, p2, p3, p4, p5, p6, p7, p8, p9⟩ := C4.out))
        (try simp only [Exit.inBlock, Exit.then])
        refine bodyPost_ret (results_ct5 rfl _ _ w.heap.size _ rfl (C4.out.put (.int .i64 0) (.string ⟨#[]⟩) (.string ⟨#[]⟩) (.string ⟨#[]⟩) (.int .i64 0)) Tryz.underlying57 rfl (by kernel_rfl)) rfl ?_
        refine ⟨?_, putC_below B4.out (Nat.le_refl _) _ _ _ _ _⟩
        rw [HK.out]; rfl
      · intro ck HW
        have cd := fun W (hW : GL W) => domain_any a' (by omega) W hW
        rw [ha] at cd
        have HK : Hid (parseL s.data.toList = if domainB a then (1, a, [], [], 0, 0) else cmdE 501) := Lib.hid (HW 1 rfl).out
        cases hdm : domainB a with
        | true =>
          have HK2 : Hid (parseL s.data.toList = (1, a, [], [], 0, 0)) := Lib.hid (by rw [HK.out, hdm]; rfl)
          rw [hdm] at cd
          clear hdm HK
          go_wp2_with (first | (go_at_call 71; refine (ct _).mono ?_; rintro e w1 ⟨rfl, HB1⟩; have C1 := Lib.hid (HC.out.below HB1); have B1 := Lib.hid (belowT HB.out HB1)) | (go_at_call 67; refine (cc _ (hGL.step B1.out)).mono ?_; rintro e w2 ⟨rfl, HB2⟩; have C2 := Lib.hid (C1.out.below HB2); have B2 := Lib.hid (belowT B1.out HB2)) | (go_at_call 69; refine (cl _).mono ?_; rintro e w3 ⟨rfl, HB3⟩; have C3 := Lib.hid (C2.out.below HB3); have B3 := Lib.hid (belowT B2.out HB3)) | (go_at_call 72; refine (ck _).mono ?_; rintro e w4 ⟨rfl, HB4⟩; have C4 := Lib.hid (C3.out.below HB4); have B4 := Lib.hid (belowT B3.out HB4); obtain ⟨p0, p1, p2, p3, p4, p5, p6, p7, p8, p9⟩ := C4.out) | (go_at_call 41; refine (cd _ (hGL.step B4.out)).mono ?_; rintro e w5 ⟨rfl, HB5⟩; have C5 := Lib.hid (C4.out.below HB5); have B5 := Lib.hid (belowT B4.out HB5); obtain ⟨r0, r1, r2, r3, r4, r5, r6, r7, r8, r9⟩ := C5.out))
          (try simp only [Exit.inBlock, Exit.then])
          refine bodyPost_ret (results_ct5 rfl _ _ w.heap.size _ rfl (C5.out.put (.int .i64 1) (.string a') (.string ⟨#[]⟩) (.string ⟨#[]⟩) (.int .i64 0)) Tryz.underlying57 rfl (by kernel_rfl)) rfl ?_
          refine ⟨?_, putC_below B5.out (Nat.le_refl _) _ _ _ _ _⟩
          rw [HK2.out, HA2.out]; rfl
        | false =>
          have HK2 : Hid (parseL s.data.toList = cmdE 501) := Lib.hid (by rw [HK.out, hdm]; rfl)
          rw [hdm] at cd
          clear hdm HK
          go_wp2_with (first | (go_at_call 71; refine (ct _).mono ?_; rintro e w1 ⟨rfl, HB1⟩; have C1 := Lib.hid (HC.out.below HB1); have B1 := Lib.hid (belowT HB.out HB1)) | (go_at_call 67; refine (cc _ (hGL.step B1.out)).mono ?_; rintro e w2 ⟨rfl, HB2⟩; have C2 := Lib.hid (C1.out.below HB2); have B2 := Lib.hid (belowT B1.out HB2)) | (go_at_call 69; refine (cl _).mono ?_; rintro e w3 ⟨rfl, HB3⟩; have C3 := Lib.hid (C2.out.below HB3); have B3 := Lib.hid (belowT B2.out HB3)) | (go_at_call 72; refine (ck _).mono ?_; rintro e w4 ⟨rfl, HB4⟩; have C4 := Lib.hid (C3.out.below HB4); have B4 := Lib.hid (belowT B3.out HB4); obtain ⟨p0, p1, p2, p3, p4, p5, p6, p7, p8, p9⟩ := C4.out) | (go_at_call 41; refine (cd _ (hGL.step B4.out)).mono ?_; rintro e w5 ⟨rfl, HB5⟩; have C5 := Lib.hid (C4.out.below HB5); have B5 := Lib.hid (belowT B4.out HB5); obtain ⟨r0, r1, r2, r3, r4, r5, r6, r7, r8, r9⟩ := C5.out))
          (try simp only [Exit.inBlock, Exit.then])
          refine bodyPost_ret (results_ct5 rfl _ _ w.heap.size _ rfl (C5.out.put (.int .i64 0) (.string ⟨#[]⟩) (.string ⟨#[]⟩) (.string ⟨#[]⟩) (.int .i64 0)) Tryz.underlying57 rfl (by kernel_rfl)) rfl ?_
          refine ⟨?_, putC_below B5.out (Nat.le_refl _) _ _ _ _ _⟩
          rw [HK2.out]; rfl
      · intro ck HW
        have cd := fun W (hW : GL W) => domain_any a' (by omega) W hW
        rw [ha] at cd
        have HK : Hid (parseL s.data.toList = if domainB a then (2, a, [], [], 0, 0) else cmdE 501) := Lib.hid (HW 2 rfl).out
        cases hdm : domainB a with
        | true =>
          have HK2 : Hid (parseL s.data.toList = (2, a, [], [], 0, 0)) := Lib.hid (by rw [HK.out, hdm]; rfl)
          rw [hdm] at cd
          clear hdm HK
          go_wp2_with (first | (go_at_call 71; refine (ct _).mono ?_; rintro e w1 ⟨rfl, HB1⟩; have C1 := Lib.hid (HC.out.below HB1); have B1 := Lib.hid (belowT HB.out HB1)) | (go_at_call 67; refine (cc _ (hGL.step B1.out)).mono ?_; rintro e w2 ⟨rfl, HB2⟩; have C2 := Lib.hid (C1.out.below HB2); have B2 := Lib.hid (belowT B1.out HB2)) | (go_at_call 69; refine (cl _).mono ?_; rintro e w3 ⟨rfl, HB3⟩; have C3 := Lib.hid (C2.out.below HB3); have B3 := Lib.hid (belowT B2.out HB3)) | (go_at_call 72; refine (ck _).mono ?_; rintro e w4 ⟨rfl, HB4⟩; have C4 := Lib.hid (C3.out.below HB4); have B4 := Lib.hid (belowT B3.out HB4); obtain ⟨p0, p1, p2, p3, p4, p5, p6, p7, p8, p9⟩ := C4.out) | (go_at_call 41; refine (cd _ (hGL.step B4.out)).mono ?_; rintro e w5 ⟨rfl, HB5⟩; have C5 := Lib.hid (C4.out.below HB5); have B5 := Lib.hid (belowT B4.out HB5); obtain ⟨r0, r1, r2, r3, r4, r5, r6, r7, r8, r9⟩ := C5.out))
          (try simp only [Exit.inBlock, Exit.then])
          refine bodyPost_ret (results_ct5 rfl _ _ w.heap.size _ rfl (C5.out.put (.int .i64 2) (.string a') (.string ⟨#[]⟩) (.string ⟨#[]⟩) (.int .i64 0)) Tryz.underlying57 rfl (by kernel_rfl)) rfl ?_
          refine ⟨?_, putC_below B5.out (Nat.le_refl _) _ _ _ _ _⟩
          rw [HK2.out, HA2.out]; rfl
        | false =>
          have HK2 : Hid (parseL s.data.toList = cmdE 501) := Lib.hid (by rw [HK.out, hdm]; rfl)
          rw [hdm] at cd
          clear hdm HK
          go_wp2_with (first | (go_at_call 71; refine (ct _).mono ?_; rintro e w1 ⟨rfl, HB1⟩; have C1 := Lib.hid (HC.out.below HB1); have B1 := Lib.hid (belowT HB.out HB1)) | (go_at_call 67; refine (cc _ (hGL.step B1.out)).mono ?_; rintro e w2 ⟨rfl, HB2⟩; have C2 := Lib.hid (C1.out.below HB2); have B2 := Lib.hid (belowT B1.out HB2)) | (go_at_call 69; refine (cl _).mono ?_; rintro e w3 ⟨rfl, HB3⟩; have C3 := Lib.hid (C2.out.below HB3); have B3 := Lib.hid (belowT B2.out HB3)) | (go_at_call 72; refine (ck _).mono ?_; rintro e w4 ⟨rfl, HB4⟩; have C4 := Lib.hid (C3.out.below HB4); have B4 := Lib.hid (belowT B3.out HB4); obtain ⟨p0, p1, p2, p3, p4, p5, p6, p7, p8, p9⟩ := C4.out) | (go_at_call 41; refine (cd _ (hGL.step B4.out)).mono ?_; rintro e w5 ⟨rfl, HB5⟩; have C5 := Lib.hid (C4.out.below HB5); have B5 := Lib.hid (belowT B4.out HB5); obtain ⟨r0, r1, r2, r3, r4, r5, r6, r7, r8, r9⟩ := C5.out))
          (try simp only [Exit.inBlock, Exit.then])
          refine bodyPost_ret (results_ct5 rfl _ _ w.heap.size _ rfl (C5.out.put (.int .i64 0) (.string ⟨#[]⟩) (.string ⟨#[]⟩) (.string ⟨#[]⟩) (.int .i64 0)) Tryz.underlying57 rfl (by kernel_rfl)) rfl ?_
          refine ⟨?_, putC_below B5.out (Nat.le_refl _) _ _ _ _ _⟩
          rw [HK2.out]; rfl
      · intro ck HW
        have HK0 : wordsL 3 a m rest'.data.toList = mailL rest'.data.toList := rfl
        have HK : Hid (parseL s.data.toList = mailL rest'.data.toList) := Lib.hid ((HW 3 rfl).out.trans HK0)
        have cm := fun W (hW : GL W) => mail_any rest' hrz W hW
        rcases hml : mailL rest'.data.toList with ⟨q0, q1, q2, q3, q4, q5⟩
        have HK2 : Hid (parseL s.data.toList = (q0, q1, q2, q3, q4, q5)) := Lib.hid (HK.out.trans hml)
        rw [hml] at cm
        change ∀ W, GL W → Calls _ _ _ W (fun e' w' => e' = Ending.returned (.tuple #[.agg #[.int .i64 q0, .string ⟨q1.toArray⟩, .string ⟨q2.toArray⟩, .string ⟨q3.toArray⟩, .int .i64 q4], .int .i64 q5]) ∧ _) at cm
        have hk : ∀ x1 x2 x3 : ByteArray, (⟨q1.toArray⟩ : ByteArray) = x1 → (⟨q2.toArray⟩ : ByteArray) = x2 → (⟨q3.toArray⟩ : ByteArray) = x3 → Hid (cmdV (parseL s.data.toList) = .tuple #[.agg #[.int .i64 q0, .string x1, .string x2, .string x3, .int .i64 q4], .int .i64 q5]) := fun x1 x2 x3 h1 h2 h3 => Lib.hid (by rw [HK2.out, ← h1, ← h2, ← h3]; rfl)
        generalize hx1 : (⟨q1.toArray⟩ : ByteArray) = x1 at cm
        generalize hx2 : (⟨q2.toArray⟩ : ByteArray) = x2 at cm
        generalize hx3 : (⟨q3.toArray⟩ : ByteArray) = x3 at cm
        have HV := hk x1 x2 x3 hx1 hx2 hx3
        clear hk hx1 hx2 hx3 hml HK0 HK HK2
        go_wp2_with (first | (go_at_call 71; refine (ct _).mono ?_; rintro e w1 ⟨rfl, HB1⟩; have C1 := Lib.hid (HC.out.below HB1); have B1 := Lib.hid (belowT HB.out HB1)) | (go_at_call 67; refine (cc _ (hGL.step B1.out)).mono ?_; rintro e w2 ⟨rfl, HB2⟩; have C2 := Lib.hid (C1.out.below HB2); have B2 := Lib.hid (belowT B1.out HB2)) | (go_at_call 69; refine (cl _).mono ?_; rintro e w3 ⟨rfl, HB3⟩; have C3 := Lib.hid (C2.out.below HB3); have B3 := Lib.hid (belowT B2.out HB3)) | (go_at_call 72; refine (ck _).mono ?_; rintro e w4 ⟨rfl, HB4⟩; have C4 := Lib.hid (C3.out.below HB4); have B4 := Lib.hid (belowT B3.out HB4); obtain ⟨p0, p1, p2, p3, p4, p5, p6, p7, p8, p9⟩ := C4.out) | (go_at_call 73; refine (cm _ (hGL.step B4.out)).mono ?_; rintro e w5 ⟨rfl, HB5⟩; have C5 := Lib.hid (C4.out.below HB5); have B5 := Lib.hid (belowT B4.out HB5); obtain ⟨r0, r1, r2, r3, r4, r5, r6, r7, r8, r9⟩ := C5.out))
        (try simp only [Exit.inBlock, Exit.then])
        refine bodyPost_ret (results_ct5 rfl _ _ w.heap.size _ rfl (C5.out.put (.int .i64 q0) (.string x1) (.string x2) (.string x3) (.int .i64 q4)) Tryz.underlying57 rfl (by kernel_rfl)) rfl ?_
        refine ⟨?_, putC_below B5.out (Nat.le_refl _) _ _ _ _ _⟩
        exact congrArg Ending.returned HV.out.symm
      · intro ck HW
        have HK0 : wordsL 4 a m rest'.data.toList = rcptL rest'.data.toList := rfl
        have HK : Hid (parseL s.data.toList = rcptL rest'.data.toList) := Lib.hid ((HW 4 rfl).out.trans HK0)
        have cm := fun W (hW : GL W) => rcpt_any rest' hrz W hW
        rcases hml : rcptL rest'.data.toList with ⟨q0, q1, q2, q3, q4, q5⟩
        have HK2 : Hid (parseL s.data.toList = (q0, q1, q2, q3, q4, q5)) := Lib.hid (HK.out.trans hml)
        rw [hml] at cm
        change ∀ W, GL W → Calls _ _ _ W (fun e' w' => e' = Ending.returned (.tuple #[.agg #[.int .i64 q0, .string ⟨q1.toArray⟩, .string ⟨q2.toArray⟩, .string ⟨q3.toArray⟩, .int .i64 q4], .int .i64 q5]) ∧ _) at cm
        have hk : ∀ x1 x2 x3 : ByteArray, (⟨q1.toArray⟩ : ByteArray) = x1 → (⟨q2.toArray⟩ : ByteArray) = x2 → (⟨q3.toArray⟩ : ByteArray) = x3 → Hid (cmdV (parseL s.data.toList) = .tuple #[.agg #[.int .i64 q0, .string x1, .string x2, .string x3, .int .i64 q4], .int .i64 q5]) := fun x1 x2 x3 h1 h2 h3 => Lib.hid (by rw [HK2.out, ← h1, ← h2, ← h3]; rfl)
        generalize hx1 : (⟨q1.toArray⟩ : ByteArray) = x1 at cm
        generalize hx2 : (⟨q2.toArray⟩ : ByteArray) = x2 at cm
        generalize hx3 : (⟨q3.toArray⟩ : ByteArray) = x3 at cm
        have HV := hk x1 x2 x3 hx1 hx2 hx3
        clear hk hx1 hx2 hx3 hml HK0 HK HK2
        go_wp2_with (first | (go_at_call 71; refine (ct _).mono ?_; rintro e w1 ⟨rfl, HB1⟩; have C1 := Lib.hid (HC.out.below HB1); have B1 := Lib.hid (belowT HB.out HB1)) | (go_at_call 67; refine (cc _ (hGL.step B1.out)).mono ?_; rintro e w2 ⟨rfl, HB2⟩; have C2 := Lib.hid (C1.out.below HB2); have B2 := Lib.hid (belowT B1.out HB2)) | (go_at_call 69; refine (cl _).mono ?_; rintro e w3 ⟨rfl, HB3⟩; have C3 := Lib.hid (C2.out.below HB3); have B3 := Lib.hid (belowT B2.out HB3)) | (go_at_call 72; refine (ck _).mono ?_; rintro e w4 ⟨rfl, HB4⟩; have C4 := Lib.hid (C3.out.below HB4); have B4 := Lib.hid (belowT B3.out HB4); obtain ⟨p0, p1, p2, p3, p4, p5, p6, p7, p8, p9⟩ := C4.out) | (go_at_call 74; refine (cm _ (hGL.step B4.out)).mono ?_; rintro e w5 ⟨rfl, HB5⟩; have C5 := Lib.hid (C4.out.below HB5); have B5 := Lib.hid (belowT B4.out HB5); obtain ⟨r0, r1, r2, r3, r4, r5, r6, r7, r8, r9⟩ := C5.out))
        (try simp only [Exit.inBlock, Exit.then])
        refine bodyPost_ret (results_ct5 rfl _ _ w.heap.size _ rfl (C5.out.put (.int .i64 q0) (.string x1) (.string x2) (.string x3) (.int .i64 q4)) Tryz.underlying57 rfl (by kernel_rfl)) rfl ?_
        refine ⟨?_, putC_below B5.out (Nat.le_refl _) _ _ _ _ _⟩
        exact congrArg Ending.returned HV.out.symm
      · intro ck HW
        have HK : Hid (parseL s.data.toList = if m then cmdE 501 else (5, a, [], [], 0, 0)) := Lib.hid (HW 5 rfl).out
        cases m with
        | true =>
          have HK2 : Hid (parseL s.data.toList = cmdE 501) := Lib.hid HK.out
          clear HK
          go_wp2_with (first | (go_at_call 71; refine (ct _).mono ?_; rintro e w1 ⟨rfl, HB1⟩; have C1 := Lib.hid (HC.out.below HB1); have B1 := Lib.hid (belowT HB.out HB1)) | (go_at_call 67; refine (cc _ (hGL.step B1.out)).mono ?_; rintro e w2 ⟨rfl, HB2⟩; have C2 := Lib.hid (C1.out.below HB2); have B2 := Lib.hid (belowT B1.out HB2)) | (go_at_call 69; refine (cl _).mono ?_; rintro e w3 ⟨rfl, HB3⟩; have C3 := Lib.hid (C2.out.below HB3); have B3 := Lib.hid (belowT B2.out HB3)) | (go_at_call 72; refine (ck _).mono ?_; rintro e w4 ⟨rfl, HB4⟩; have C4 := Lib.hid (C3.out.below HB4); have B4 := Lib.hid (belowT B3.out HB4); obtain ⟨p0, p1, p2, p3, p4, p5, p6, p7, p8, p9⟩ := C4.out))
          (try simp only [Exit.inBlock, Exit.then])
          refine bodyPost_ret (results_ct5 rfl _ _ w.heap.size _ rfl (C4.out.put (.int .i64 0) (.string ⟨#[]⟩) (.string ⟨#[]⟩) (.string ⟨#[]⟩) (.int .i64 0)) Tryz.underlying57 rfl (by kernel_rfl)) rfl ?_
          refine ⟨?_, putC_below B4.out (Nat.le_refl _) _ _ _ _ _⟩
          rw [HK2.out]; rfl
        | false =>
          have HK2 : Hid (parseL s.data.toList = (5, a, [], [], 0, 0)) := Lib.hid HK.out
          clear HK
          go_wp2_with (first | (go_at_call 71; refine (ct _).mono ?_; rintro e w1 ⟨rfl, HB1⟩; have C1 := Lib.hid (HC.out.below HB1); have B1 := Lib.hid (belowT HB.out HB1)) | (go_at_call 67; refine (cc _ (hGL.step B1.out)).mono ?_; rintro e w2 ⟨rfl, HB2⟩; have C2 := Lib.hid (C1.out.below HB2); have B2 := Lib.hid (belowT B1.out HB2)) | (go_at_call 69; refine (cl _).mono ?_; rintro e w3 ⟨rfl, HB3⟩; have C3 := Lib.hid (C2.out.below HB3); have B3 := Lib.hid (belowT B2.out HB3)) | (go_at_call 72; refine (ck _).mono ?_; rintro e w4 ⟨rfl, HB4⟩; have C4 := Lib.hid (C3.out.below HB4); have B4 := Lib.hid (belowT B3.out HB4); obtain ⟨p0, p1, p2, p3, p4, p5, p6, p7, p8, p9⟩ := C4.out))
          (try simp only [Exit.inBlock, Exit.then])
          refine bodyPost_ret (results_ct5 rfl _ _ w.heap.size _ rfl (C4.out.put (.int .i64 5) (.string a') (.string ⟨#[]⟩) (.string ⟨#[]⟩) (.int .i64 0)) Tryz.underlying57 rfl (by kernel_rfl)) rfl ?_
          refine ⟨?_, putC_below B4.out (Nat.le_refl _) _ _ _ _ _⟩
          rw [HK2.out, HA2.out]; rfl
      · intro ck HW
        have HK : Hid (parseL s.data.toList = if m then cmdE 501 else (6, a, [], [], 0, 0)) := Lib.hid (HW 6 rfl).out
        cases m with
        | true =>
          have HK2 : Hid (parseL s.data.toList = cmdE 501) := Lib.hid HK.out
          clear HK
          go_wp2_with (first | (go_at_call 71; refine (ct _).mono ?_; rintro e w1 ⟨rfl, HB1⟩; have C1 := Lib.hid (HC.out.below HB1); have B1 := Lib.hid (belowT HB.out HB1)) | (go_at_call 67; refine (cc _ (hGL.step B1.out)).mono ?_; rintro e w2 ⟨rfl, HB2⟩; have C2 := Lib.hid (C1.out.below HB2); have B2 := Lib.hid (belowT B1.out HB2)) | (go_at_call 69; refine (cl _).mono ?_; rintro e w3 ⟨rfl, HB3⟩; have C3 := Lib.hid (C2.out.below HB3); have B3 := Lib.hid (belowT B2.out HB3)) | (go_at_call 72; refine (ck _).mono ?_; rintro e w4 ⟨rfl, HB4⟩; have C4 := Lib.hid (C3.out.below HB4); have B4 := Lib.hid (belowT B3.out HB4); obtain ⟨p0, p1, p2, p3, p4, p5, p6, p7, p8, p9⟩ := C4.out))
          (try simp only [Exit.inBlock, Exit.then])
          refine bodyPost_ret (results_ct5 rfl _ _ w.heap.size _ rfl (C4.out.put (.int .i64 0) (.string ⟨#[]⟩) (.string ⟨#[]⟩) (.string ⟨#[]⟩) (.int .i64 0)) Tryz.underlying57 rfl (by kernel_rfl)) rfl ?_
          refine ⟨?_, putC_below B4.out (Nat.le_refl _) _ _ _ _ _⟩
          rw [HK2.out]; rfl
        | false =>
          have HK2 : Hid (parseL s.data.toList = (6, a, [], [], 0, 0)) := Lib.hid HK.out
          clear HK
          go_wp2_with (first | (go_at_call 71; refine (ct _).mono ?_; rintro e w1 ⟨rfl, HB1⟩; have C1 := Lib.hid (HC.out.below HB1); have B1 := Lib.hid (belowT HB.out HB1)) | (go_at_call 67; refine (cc _ (hGL.step B1.out)).mono ?_; rintro e w2 ⟨rfl, HB2⟩; have C2 := Lib.hid (C1.out.below HB2); have B2 := Lib.hid (belowT B1.out HB2)) | (go_at_call 69; refine (cl _).mono ?_; rintro e w3 ⟨rfl, HB3⟩; have C3 := Lib.hid (C2.out.below HB3); have B3 := Lib.hid (belowT B2.out HB3)) | (go_at_call 72; refine (ck _).mono ?_; rintro e w4 ⟨rfl, HB4⟩; have C4 := Lib.hid (C3.out.below HB4); have B4 := Lib.hid (belowT B3.out HB4); obtain ⟨p0, p1, p2, p3, p4, p5, p6, p7, p8, p9⟩ := C4.out))
          (try simp only [Exit.inBlock, Exit.then])
          refine bodyPost_ret (results_ct5 rfl _ _ w.heap.size _ rfl (C4.out.put (.int .i64 6) (.string a') (.string ⟨#[]⟩) (.string ⟨#[]⟩) (.int .i64 0)) Tryz.underlying57 rfl (by kernel_rfl)) rfl ?_
          refine ⟨?_, putC_below B4.out (Nat.le_refl _) _ _ _ _ _⟩
          rw [HK2.out, HA2.out]; rfl
      · intro ck HW
        have HK : Hid (parseL s.data.toList = (7, a, [], [], 0, 0)) := Lib.hid (HW 7 rfl).out
        go_wp2_with (first | (go_at_call 71; refine (ct _).mono ?_; rintro e w1 ⟨rfl, HB1⟩; have C1 := Lib.hid (HC.out.below HB1); have B1 := Lib.hid (belowT HB.out HB1)) | (go_at_call 67; refine (cc _ (hGL.step B1.out)).mono ?_; rintro e w2 ⟨rfl, HB2⟩; have C2 := Lib.hid (C1.out.below HB2); have B2 := Lib.hid (belowT B1.out HB2)) | (go_at_call 69; refine (cl _).mono ?_; rintro e w3 ⟨rfl, HB3⟩; have C3 := Lib.hid (C2.out.below HB3); have B3 := Lib.hid (belowT B2.out HB3)) | (go_at_call 72; refine (ck _).mono ?_; rintro e w4 ⟨rfl, HB4⟩; have C4 := Lib.hid (C3.out.below HB4); have B4 := Lib.hid (belowT B3.out HB4); obtain ⟨p0, p1, p2, p3, p4, p5, p6, p7, p8, p9⟩ := C4.out))
        (try simp only [Exit.inBlock, Exit.then])
        refine bodyPost_ret (results_ct5 rfl _ _ w.heap.size _ rfl (C4.out.put (.int .i64 7) (.string a') (.string ⟨#[]⟩) (.string ⟨#[]⟩) (.int .i64 0)) Tryz.underlying57 rfl (by kernel_rfl)) rfl ?_
        refine ⟨?_, putC_below B4.out (Nat.le_refl _) _ _ _ _ _⟩
        rw [HK.out, HA2.out]; rfl
      · intro ck HW
        have HK : Hid (parseL s.data.toList = if m then cmdE 501 else (8, a, [], [], 0, 0)) := Lib.hid (HW 8 rfl).out
        cases m with
        | true =>
          have HK2 : Hid (parseL s.data.toList = cmdE 501) := Lib.hid HK.out
          clear HK
          go_wp2_with (first | (go_at_call 71; refine (ct _).mono ?_; rintro e w1 ⟨rfl, HB1⟩; have C1 := Lib.hid (HC.out.below HB1); have B1 := Lib.hid (belowT HB.out HB1)) | (go_at_call 67; refine (cc _ (hGL.step B1.out)).mono ?_; rintro e w2 ⟨rfl, HB2⟩; have C2 := Lib.hid (C1.out.below HB2); have B2 := Lib.hid (belowT B1.out HB2)) | (go_at_call 69; refine (cl _).mono ?_; rintro e w3 ⟨rfl, HB3⟩; have C3 := Lib.hid (C2.out.below HB3); have B3 := Lib.hid (belowT B2.out HB3)) | (go_at_call 72; refine (ck _).mono ?_; rintro e w4 ⟨rfl, HB4⟩; have C4 := Lib.hid (C3.out.below HB4); have B4 := Lib.hid (belowT B3.out HB4); obtain ⟨p0, p1, p2, p3, p4, p5, p6, p7, p8, p9⟩ := C4.out))
          (try simp only [Exit.inBlock, Exit.then])
          refine bodyPost_ret (results_ct5 rfl _ _ w.heap.size _ rfl (C4.out.put (.int .i64 0) (.string ⟨#[]⟩) (.string ⟨#[]⟩) (.string ⟨#[]⟩) (.int .i64 0)) Tryz.underlying57 rfl (by kernel_rfl)) rfl ?_
          refine ⟨?_, putC_below B4.out (Nat.le_refl _) _ _ _ _ _⟩
          rw [HK2.out]; rfl
        | false =>
          have HK2 : Hid (parseL s.data.toList = (8, a, [], [], 0, 0)) := Lib.hid HK.out
          clear HK
          go_wp2_with (first | (go_at_call 71; refine (ct _).mono ?_; rintro e w1 ⟨rfl, HB1⟩; have C1 := Lib.hid (HC.out.below HB1); have B1 := Lib.hid (belowT HB.out HB1)) | (go_at_call 67; refine (cc _ (hGL.step B1.out)).mono ?_; rintro e w2 ⟨rfl, HB2⟩; have C2 := Lib.hid (C1.out.below HB2); have B2 := Lib.hid (belowT B1.out HB2)) | (go_at_call 69; refine (cl _).mono ?_; rintro e w3 ⟨rfl, HB3⟩; have C3 := Lib.hid (C2.out.below HB3); have B3 := Lib.hid (belowT B2.out HB3)) | (go_at_call 72; refine (ck _).mono ?_; rintro e w4 ⟨rfl, HB4⟩; have C4 := Lib.hid (C3.out.below HB4); have B4 := Lib.hid (belowT B3.out HB4); obtain ⟨p0, p1, p2, p3, p4, p5, p6, p7, p8, p9⟩ := C4.out))
          (try simp only [Exit.inBlock, Exit.then])
          refine bodyPost_ret (results_ct5 rfl _ _ w.heap.size _ rfl (C4.out.put (.int .i64 8) (.string a') (.string ⟨#[]⟩) (.string ⟨#[]⟩) (.int .i64 0)) Tryz.underlying57 rfl (by kernel_rfl)) rfl ?_
          refine ⟨?_, putC_below B4.out (Nat.le_refl _) _ _ _ _ _⟩
          rw [HK2.out, HA2.out]; rfl
      · intro ck HW
        have HK : Hid (parseL s.data.toList = if a.isEmpty then cmdE 501 else (9, a, [], [], 0, 0)) := Lib.hid (HW 9 rfl).out
        cases hae : a.isEmpty with
        | true =>
          have HK2 : Hid (parseL s.data.toList = cmdE 501) := Lib.hid (by rw [HK.out, hae]; rfl)
          have hE : a'.toList.isEmpty = true := by rw [Go.ByteArray.toList_eq, ha]; exact hae
          clear hae HK
          go_wp2_with (first | (go_at_call 71; refine (ct _).mono ?_; rintro e w1 ⟨rfl, HB1⟩; have C1 := Lib.hid (HC.out.below HB1); have B1 := Lib.hid (belowT HB.out HB1)) | (go_at_call 67; refine (cc _ (hGL.step B1.out)).mono ?_; rintro e w2 ⟨rfl, HB2⟩; have C2 := Lib.hid (C1.out.below HB2); have B2 := Lib.hid (belowT B1.out HB2)) | (go_at_call 69; refine (cl _).mono ?_; rintro e w3 ⟨rfl, HB3⟩; have C3 := Lib.hid (C2.out.below HB3); have B3 := Lib.hid (belowT B2.out HB3)) | (go_at_call 72; refine (ck _).mono ?_; rintro e w4 ⟨rfl, HB4⟩; have C4 := Lib.hid (C3.out.below HB4); have B4 := Lib.hid (belowT B3.out HB4); obtain ⟨p0, p1, p2, p3, p4, p5, p6, p7, p8, p9⟩ := C4.out))
          (try simp only [Exit.inBlock, Exit.then])
          refine bodyPost_ret (results_ct5 rfl _ _ w.heap.size _ rfl (C4.out.put (.int .i64 0) (.string ⟨#[]⟩) (.string ⟨#[]⟩) (.string ⟨#[]⟩) (.int .i64 0)) Tryz.underlying57 rfl (by kernel_rfl)) rfl ?_
          refine ⟨?_, putC_below B4.out (Nat.le_refl _) _ _ _ _ _⟩
          rw [HK2.out]; rfl
        | false =>
          have HK2 : Hid (parseL s.data.toList = (9, a, [], [], 0, 0)) := Lib.hid (by rw [HK.out, hae]; rfl)
          have hE : a'.toList.isEmpty = false := by rw [Go.ByteArray.toList_eq, ha]; exact hae
          clear hae HK
          go_wp2_with (first | (go_at_call 71; refine (ct _).mono ?_; rintro e w1 ⟨rfl, HB1⟩; have C1 := Lib.hid (HC.out.below HB1); have B1 := Lib.hid (belowT HB.out HB1)) | (go_at_call 67; refine (cc _ (hGL.step B1.out)).mono ?_; rintro e w2 ⟨rfl, HB2⟩; have C2 := Lib.hid (C1.out.below HB2); have B2 := Lib.hid (belowT B1.out HB2)) | (go_at_call 69; refine (cl _).mono ?_; rintro e w3 ⟨rfl, HB3⟩; have C3 := Lib.hid (C2.out.below HB3); have B3 := Lib.hid (belowT B2.out HB3)) | (go_at_call 72; refine (ck _).mono ?_; rintro e w4 ⟨rfl, HB4⟩; have C4 := Lib.hid (C3.out.below HB4); have B4 := Lib.hid (belowT B3.out HB4); obtain ⟨p0, p1, p2, p3, p4, p5, p6, p7, p8, p9⟩ := C4.out))
          (try simp only [Exit.inBlock, Exit.then])
          refine bodyPost_ret (results_ct5 rfl _ _ w.heap.size _ rfl (C4.out.put (.int .i64 9) (.string a') (.string ⟨#[]⟩) (.string ⟨#[]⟩) (.int .i64 0)) Tryz.underlying57 rfl (by kernel_rfl)) rfl ?_
          refine ⟨?_, putC_below B4.out (Nat.le_refl _) _ _ _ _ _⟩
          rw [HK2.out, HA2.out]; rfl
end Go.Proofs.YtkmikhinkbbnnaaGreatDoor.M
