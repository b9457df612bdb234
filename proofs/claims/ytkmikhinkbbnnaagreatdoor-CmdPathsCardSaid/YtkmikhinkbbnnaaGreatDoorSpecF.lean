/- Plain laws: lines of MAIL and RCPT with a printed address. -/
import Derived.Test.YtkmikhinkbbnnaaGreatDoorSpecE
import Derived.Lib.ItoaNum
namespace Go.Proofs.YtkmikhinkbbnnaaGreatDoor.M
open Go.RowKit Go.Proofs.YtkmikhinkbbnnaaGreatDoor.Sp

theorem line_cut2 (h t : List UInt8) (hh : h.all inkB = true) (ht : t.all visibleB = true) (b : UInt8) (hl : t.getLast? = some b) (hb : b ≠ 32) : parseL (h ++ 32 :: t) = wordsL (kindL (lower h)) t true (32 :: t) := by
  have hne : t ≠ [] := fun e => by rw [e] at hl; cases hl
  have hv : (h ++ 32 :: t).all visibleB = true := by
    rw [List.all_append, List.all_cons, ht]
    have h1 : h.all visibleB = true := List.all_eq_true.2 fun x hx => (ink_visible (List.all_eq_true.1 hh x hx)).1
    rw [h1]; decide
  have htr : Lib.trimRightB (h ++ 32 :: t) 32 = h ++ 32 :: t := trim_none _ _ fun c hc => by
    rw [List.getLast?_append, List.getLast?_cons, hl] at hc
    simp at hc
    rw [← hc]; exact hb
  unfold parseL
  rw [hv, if_pos rfl, htr]
  unfold parseT
  rw [cut_at h t (fun b hb => (ink_visible (List.all_eq_true.1 hh b hb)).2)]
  simp

theorem trimLeft_blanks (c : UInt8) (r : List UInt8) (h : c ≠ 32) : ∀ k : Nat, Lib.trimLeftB (List.replicate k 32 ++ c :: r) 32 = c :: r
  | 0 => by unfold Lib.trimLeftB; rw [List.replicate_zero, List.nil_append, List.dropWhile_cons, beq_eq_false_iff_ne.2 h]; rfl
  | k + 1 => by
    have := trimLeft_blanks c r h k
    unfold Lib.trimLeftB at this ⊢
    rw [List.replicate_succ, List.cons_append, List.dropWhile_cons]
    exact this

theorem cpath_back {ah fw : List UInt8} (hf : lower (32 :: fw) = ah) (k : Nat) {lo d : List UInt8} (hr : rightB lo d = true) (tail : List UInt8) :
    cpathL (32 :: (fw ++ (List.replicate k 32 ++ (printL lo d ++ tail)))) ah = (lo, d, tail, true) := by
  have hlen : ah.length = fw.length + 1 := by rw [← hf]; simp [lower]
  have hfr : frontL (32 :: (fw ++ (List.replicate k 32 ++ (printL lo d ++ tail)))) ah = true := by
    unfold frontL
    rw [hlen, List.take_succ_cons, List.take_left, hf]
    simp
  have hdr : (32 :: (fw ++ (List.replicate k 32 ++ (printL lo d ++ tail)))).drop ah.length = List.replicate k 32 ++ (printL lo d ++ tail) := by
    rw [hlen, List.drop_succ_cons, List.drop_left]
  obtain ⟨q, hq, _⟩ := print_form hr
  unfold cpathL
  rw [hfr, if_pos rfl, hdr]
  have ht : Lib.trimLeftB (List.replicate k 32 ++ (printL lo d ++ tail)) 32 = printL lo d ++ tail := by
    rw [hq, List.cons_append]; exact trimLeft_blanks 60 _ (by decide) k
  rw [ht, path_print hr]
  rfl

theorem tail_vis {fw tail : List UInt8} (hfv : fw.all visibleB = true) (k : Nat) {lo d : List UInt8} (hr : rightB lo d = true) (htv : tail.all visibleB = true) (htl : ∀ b, tail.getLast? = some b → b ≠ 32) :
    (fw ++ (List.replicate k 32 ++ (printL lo d ++ tail))).all visibleB = true ∧ ∃ b, (fw ++ (List.replicate k 32 ++ (printL lo d ++ tail))).getLast? = some b ∧ b ≠ 32 := by
  obtain ⟨q, hq, hv⟩ := print_form hr
  rw [hq]
  refine ⟨?_, ?_⟩
  · rw [List.all_append, List.all_append, List.all_append, hfv, hv, htv]
    have : (List.replicate k (32 : UInt8)).all visibleB = true := List.all_eq_true.2 fun x hx => by rw [List.eq_of_mem_replicate hx]; decide +kernel
    rw [this]; rfl
  · cases ht : tail.getLast? with
    | none =>
      rw [List.getLast?_eq_none_iff] at ht
      subst ht
      refine ⟨62, ?_, by decide⟩
      simp [List.getLast?_append, List.getLast?_cons]
    | some b =>
      refine ⟨b, ?_, htl b ht⟩
      obtain ⟨t', rfl⟩ := List.getLast?_eq_some_iff.1 ht
      rw [← List.append_assoc, ← List.append_assoc, ← List.append_assoc, List.getLast?_concat]

theorem mail_line {h fw : List UInt8} (hk : kindL (lower h) = 3) (hh : h.all inkB = true) (hf : lower (32 :: fw) = fromT) (hfv : fw.all visibleB = true) (k : Nat) {lo d : List UInt8} (hr : rightB lo d = true)
    (tail : List UInt8) (htv : tail.all visibleB = true) (htl : ∀ b, tail.getLast? = some b → b ≠ 32) :
    parseL (h ++ 32 :: (fw ++ (List.replicate k 32 ++ (printL lo d ++ tail)))) = mailT (lo, d, tail, true) := by
  obtain ⟨h1, b, h2, h3⟩ := tail_vis hfv k hr htv htl
  rw [line_cut2 h _ hh h1 b h2 h3, hk]
  show mailL _ = _
  unfold mailL
  rw [cpath_back hf k hr tail]
theorem rcpt_line {h fw : List UInt8} (hk : kindL (lower h) = 4) (hh : h.all inkB = true) (hf : lower (32 :: fw) = toT) (hfv : fw.all visibleB = true) (k : Nat) {lo d : List UInt8} (hr : rightB lo d = true)
    (tail : List UInt8) (htv : tail.all visibleB = true) (htl : ∀ b, tail.getLast? = some b → b ≠ 32) :
    parseL (h ++ 32 :: (fw ++ (List.replicate k 32 ++ (printL lo d ++ tail)))) = rcptT (lo, d, tail, true) := by
  obtain ⟨h1, b, h2, h3⟩ := tail_vis hfv k hr htv htl
  rw [line_cut2 h _ hh h1 b h2 h3, hk]
  show rcptL _ = _
  unfold rcptL
  rw [cpath_back hf k hr tail]

/- Decimal digits. -/
theorem numF_app : ∀ (l m : List UInt8) (a : Nat), numF a (l ++ m) = numF (numF a l) m
  | [], _, _ => rfl
  | c :: r, m, a => numF_app r m (10 * a + (c.toNat - 48))
theorem dec_byte {u : Nat} (h : u < 10) : (UInt8.ofNat (48 + u)).toNat = 48 + u := by rw [UInt8.toNat_ofNat']; omega
theorem dec_digit {u : Nat} (h : u < 10) : digitB (UInt8.ofNat (48 + u)) = true := by
  simp only [digitB, Bool.and_eq_true, decide_eq_true_eq, UInt8.le_iff_toNat_le, dec_byte h]
  exact ⟨by show 48 ≤ _; omega, by show _ ≤ 57; omega⟩
theorem decDigits_rec {u : Nat} (h : ¬ u < 10) : Lib.decDigits u = Lib.decDigits (u / 10) ++ [UInt8.ofNat (48 + u % 10)] := by rw [Lib.decDigits, dif_neg h]
theorem dec_all : ∀ (n u : Nat), u ≤ n → (Lib.decDigits u).all digitB = true ∧ numF 0 (Lib.decDigits u) = u ∧ Lib.decDigits u ≠ []
  | n, u, hu => by
    by_cases h : u < 10
    · rw [Lib.decDigits_one h]
      refine ⟨by rw [List.all_cons, dec_digit h]; rfl, ?_, by simp⟩
      show 10 * 0 + ((UInt8.ofNat (48 + u)).toNat - 48) = u
      rw [dec_byte h]; omega
    · match n, hu with
      | 0, hu => omega
      | n + 1, hu =>
        obtain ⟨h1, h2, _⟩ := dec_all n (u / 10) (by omega)
        have hm : u % 10 < 10 := Nat.mod_lt _ (by decide)
        rw [decDigits_rec h]
        refine ⟨by rw [List.all_append, h1, List.all_cons, dec_digit hm]; rfl, ?_, by simp⟩
        rw [numF_app, h2]
        show 10 * (u / 10) + ((UInt8.ofNat (48 + u % 10)).toNat - 48) = u
        rw [dec_byte hm]; omega
theorem dec_len {u : Nat} (h : u ≤ 999999999) : (Lib.decDigits u).length ≤ 9 := by
  rw [Lib.decDigits_length]
  rcases Nat.lt_or_ge (Lib.nDigits u) 10 with h' | h'
  · omega
  · exfalso
    have h1 : ∀ (k v : Nat), Lib.nDigits v = k + 1 → 10 ^ k ≤ v ∨ k = 0 := by
      intro k
      induction k with
      | zero => intro v _; exact .inr rfl
      | succ k ih =>
        intro v hv
        by_cases hs : v < 10
        · rw [Lib.nDigits_small hs] at hv; omega
        · rw [Lib.nDigits_big hs] at hv
          rcases ih (v / 10) (by omega) with h2 | h2
          · refine .inl ?_; rw [Nat.pow_succ]; omega
          · subst h2; refine .inl ?_; omega
    rcases h1 (Lib.nDigits u - 1) u (by omega) with h2 | h2
    · have : 10 ^ 9 ≤ 10 ^ (Lib.nDigits u - 1) := Nat.pow_le_pow_right (by decide) (by omega)
      have h3 : (10 : Nat) ^ 9 = 1000000000 := by decide
      omega
    · omega
theorem dec_ok {u : Nat} (h : u ≤ 999999999) : digitsOk (Lib.decDigits u) = true ∧ numF 0 (Lib.decDigits u) = u := by
  obtain ⟨h1, h2, h3⟩ := dec_all u u (Nat.le_refl _)
  refine ⟨?_, h2⟩
  unfold digitsOk
  rw [h1, decide_eq_true (dec_len h)]
  cases hd : Lib.decDigits u with
  | nil => exact absurd hd h3
  | cons _ _ => rfl
theorem digits_visible {l : List UInt8} (h : l.all digitB = true) : l.all visibleB = true := List.all_eq_true.2 fun c hc => dom_visible (digit_dom (List.all_eq_true.1 h c hc))
theorem digit_last {l : List UInt8} (h : l.all digitB = true) {b : UInt8} (hb : l.getLast? = some b) : b ≠ 32 := fun e => by
  have := List.all_eq_true.1 h b (List.mem_of_getLast? hb)
  rw [e] at this; revert this; decide +kernel
end Go.Proofs.YtkmikhinkbbnnaaGreatDoor.M
