/- Package addr: shapes of domains, and domains, by hand. -/
import Derived.Test.YtkmikhinkbbnnaaGreatDoorManF
namespace Go.Proofs.YtkmikhinkbbnnaaGreatDoor.M
open Go.RowKit Go.Proofs.YtkmikhinkbbnnaaGreatDoor.Sp

theorem noNumber_any (x : ByteArray) (hs : x.size ≤ 140737488355328) (w : World) (hGL : GL w) :
    Calls Tryz.prog 127 #[.string x] w fun e w' => e = .returned (.bool (!numberB x.data.toList)) ∧ Below w.heap.size w w' := by
  have hv := number_any x hs w hGL
  generalize numberB x.data.toList = R at hv ⊢
  go_enter Tryz.func127, Tryz.ntmps127
  go_wp2_with (go_at_call 128; refine hv.mono ?_; rintro e w' ⟨rfl, hb1⟩)
  go_ret
  exact ⟨rfl, hb1⟩
theorem noLabel_any (x : ByteArray) (hs : x.size ≤ 140737488355328) (w : World) :
    Calls Tryz.prog 129 #[.string x] w fun e w' => e = .returned (.bool (!labelB x.data.toList)) ∧ Below w.heap.size w w' := by
  have hv := label_any x hs
  generalize labelB x.data.toList = R at hv ⊢
  go_enter Tryz.func129, Tryz.ntmps129
  go_wp2_with (go_at_call 130; refine (hv _).mono ?_; rintro e w' ⟨rfl, rfl⟩)
  go_ret
  exact ⟨rfl, Below.refl _ _⟩
theorem long_any (x : ByteArray) (w : World) :
    Calls Tryz.prog 85 #[.string x] w fun e w' => e = .returned (.bool (decide (63 < x.data.toList.length))) ∧ Below w.heap.size w w' := by
  have hl : Hid (decide (63 < (x.size : Int)) = decide (63 < x.data.toList.length)) := Lib.hid (by rw [len_eq, Bool.eq_iff_iff]; simp; omega)
  generalize decide (63 < x.data.toList.length) = R at hl ⊢
  go_enter Tryz.func85, Tryz.ntmps85
  go_wp2
  go_ret
  exact ⟨ret_bool hl.out, Below.refl _ _⟩

theorem noNumber_enters : ∀ args w, (callFunc 127 args).run Tryz.prog w = .ok (.enter 127 args) w := enters_of Tryz.func127 (by kernel_rfl) rfl
theorem noLabel_enters : ∀ args w, (callFunc 129 args).run Tryz.prog w = .ok (.enter 129 args) w := enters_of Tryz.func129 (by kernel_rfl) rfl
theorem long_enters : ∀ args w, (callFunc 85 args).run Tryz.prog w = .ok (.enter 85 args) w := enters_of Tryz.func85 (by kernel_rfl) rfl

theorem mid_eq (s : ByteArray) : (s.extract 1 (s.size - 1)).data.toList = (s.data.toList.drop 1).dropLast := by
  rw [Lib.extract_data, List.dropLast_eq_take, List.length_drop, len_eq]

theorem shapedB_lit {l : List UInt8} (h1 : 1 < l.length) (h2 : l.head? = some 91) (h3 : l.getLast? = some 93) :
    shapedB l = (decide ((splitOn 46 (l.drop 1).dropLast).length = 4) && (splitOn 46 (l.drop 1).dropLast).all numberB) := by
  unfold shapedB; rw [if_pos ⟨h1, h2, h3⟩]
theorem shapedB_plain {l : List UInt8} (h : ¬ (1 < l.length ∧ l.head? = some 91 ∧ l.getLast? = some 93)) : shapedB l = (splitOn 46 l).all labelB := by
  unfold shapedB; rw [if_neg h]

set_option maxHeartbeats 4000000 in
set_option maxRecDepth 100000 in
theorem shaped_any (s : ByteArray) (hs : s.size < 4294967281) (w : World) (hGL : GL w) :
    Calls Tryz.prog 86 #[.string s] w fun e w' => e = .returned (.bool (shapedB s.data.toList)) ∧ Below w.heap.size w w' := by
  by_cases hlit : 1 < s.data.toList.length ∧ s.data.toList.head? = some 91 ∧ s.data.toList.getLast? = some 93
  · obtain ⟨g1, g2, g3⟩ := hlit
    have fin0 := shapedB_lit g1 g2 g3
    rw [len_eq] at g1
    rw [head_get s (by omega)] at g2
    rw [last_get s (by omega)] at g3
    have i0 : (1 : Int) < (s.size : Int) := by omega
    have hn : ((s.size : Int) - 1).toNat = s.size - 1 := by omega
    have hb0 : 0 ≤ (s.size : Int) - 1 := by omega
    have hb1 : (s.size : Int) - 1 < (s.size : Int) := by omega
    have hb2 : (1 : Int) ≤ (s.size : Int) - 1 := by omega
    have q0 : ((((s[0]'(by omega)).toNat : Int) == 91) : Bool) = true := by
      have := u8_eq (s[0]'(by omega)) 91
      rw [Option.some.inj g2] at this ⊢; exact this
    have q1 : ((((s[s.size - 1]'(by omega)).toNat : Int) == 93) : Bool) = true := by
      have := u8_eq (s[s.size - 1]'(by omega)) 93
      rw [Option.some.inj g3] at this ⊢; exact this
    have hz : (s.extract 1 (s.size - 1)).size < 4294967281 := by rw [ByteArray.size_extract]; omega
    have hsp := split_any (s.extract 1 (s.size - 1)) hz w hGL
    have hco := splitContains 127 noNumber_enters (fun l => !numberB l) (s.extract 1 (s.size - 1)) (fun x hx W hG => noNumber_any x (by omega) W hG) hz
    have hzn : (s.extract 1 (s.size - 1)).size ≤ 4294967281 := by omega
    rw [← mid_eq s, ← not_any] at fin0
    have hlen : ∀ (zs : List ByteArray) (n : Nat), zs.length = n → zs.map (·.data.toList) = splitOn 46 (s.extract 1 (s.size - 1)).data.toList → (splitOn 46 (s.extract 1 (s.size - 1)).data.toList).length = n := fun zs n h1 h => by rw [← h, List.length_map, h1]
    have HL := Lib.hid hlen
    generalize hR : ((splitOn 46 (s.extract 1 (s.size - 1)).data.toList).any fun l => !numberB l) = R at hco fin0
    have HG := Lib.hid hGL
    clear hR hGL hz g2 g3 hlen
    by_cases e4 : (splitOn 46 (s.extract 1 (s.size - 1)).data.toList).length = 4
    · rw [decide_eq_true e4] at fin0
      have fin := Lib.hid fin0
      have HE := Lib.hid e4
      clear fin0 e4
      go_enter Tryz.func86, Tryz.ntmps86
      go_wp2_with (first | (go_at_call 88; refine hsp.mono ?_; rintro e w1 ⟨b, n, zs, rfl, h1, h2, h3, h4, hb1⟩; have H1 := Lib.hid h1; have H3 := Lib.hid h3; have H4 := Lib.hid h4; clear h1 h3 h4; have e4b : (((n : Nat) : Int) == 4) = true := by (rw [beq_iff_eq]; have := HL.out zs n H1.out H3.out; have := HE.out; omega)) | (go_at_call 87; refine (hco _ _ _ _ (HG.out.step hb1) H1.out h2 H3.out H4.out).mono ?_; rintro e w2 ⟨rfl, hb2⟩))
      go_ret
      exact ⟨ret_bool (by rw [fin.out]; rfl), belowT hb1 hb2⟩
    · rw [decide_eq_false e4] at fin0
      have fin := Lib.hid fin0
      have HE := Lib.hid e4
      clear fin0 e4
      go_enter Tryz.func86, Tryz.ntmps86
      go_wp2_with (go_at_call 88; refine hsp.mono ?_; rintro e w1 ⟨b, n, zs, rfl, h1, h2, h3, h4, hb1⟩; have H1 := Lib.hid h1; have H3 := Lib.hid h3; have H4 := Lib.hid h4; clear h1 h3 h4; have e4b : (((n : Nat) : Int) == 4) = false := by (rw [beq_eq_false_iff_ne]; have := HL.out zs n H1.out H3.out; have := HE.out; omega))
      go_ret
      exact ⟨ret_bool (by rw [fin.out]; rfl), hb1⟩
  · have fin0 := shapedB_plain hlit
    rw [← not_any] at fin0
    have hsp := split_any s hs w hGL
    have hco := splitContains 129 noLabel_enters (fun l => !labelB l) s (fun x hx W _ => noLabel_any x (by omega) W) hs
    generalize hR : ((splitOn 46 s.data.toList).any fun l => !labelB l) = R at hco fin0
    have fin := Lib.hid fin0
    have HG := Lib.hid hGL
    rw [len_eq] at hlit
    clear hR hGL fin0
    by_cases g1 : 1 < s.size
    · rw [head_get s (by omega), last_get s (by omega)] at hlit
      have i0 : (1 : Int) < (s.size : Int) := by omega
      have hn : ((s.size : Int) - 1).toNat = s.size - 1 := by omega
      have hb0 : 0 ≤ (s.size : Int) - 1 := by omega
      have hb1 : (s.size : Int) - 1 < (s.size : Int) := by omega
      by_cases g2 : (s[0]'(by omega)) = 91
      · have q0 : ((((s[0]'(by omega)).toNat : Int) == 91) : Bool) = true := by rw [g2]; rfl
        have q1 : ((((s[s.size - 1]'(by omega)).toNat : Int) == 93) : Bool) = false := by
          have := u8_eq (s[s.size - 1]'(by omega)) 93
          rw [show (93 : Int) = ((93 : UInt8).toNat : Int) from rfl, this, beq_eq_false_iff_ne]
          exact fun h => hlit ⟨g1, by rw [g2], by rw [h]⟩
        clear g2 hlit
        go_enter Tryz.func86, Tryz.ntmps86
        go_wp2_with (first | (go_at_call 88; refine hsp.mono ?_; rintro e w1 ⟨b, n, zs, rfl, h1, h2, h3, h4, hb1⟩; have H1 := Lib.hid h1; have H3 := Lib.hid h3; have H4 := Lib.hid h4; clear h1 h3 h4) | (go_at_call 87; refine (hco _ _ _ _ (HG.out.step hb1) H1.out h2 H3.out H4.out).mono ?_; rintro e w2 ⟨rfl, hb2⟩))
        go_ret
        exact ⟨ret_bool fin.out.symm, belowT hb1 hb2⟩
      · have q0 : ((((s[0]'(by omega)).toNat : Int) == 91) : Bool) = false := by
          have := u8_eq (s[0]'(by omega)) 91
          rw [show (91 : Int) = ((91 : UInt8).toNat : Int) from rfl, this, beq_eq_false_iff_ne]; exact g2
        clear g2 hlit
        go_enter Tryz.func86, Tryz.ntmps86
        go_wp2_with (first | (go_at_call 88; refine hsp.mono ?_; rintro e w1 ⟨b, n, zs, rfl, h1, h2, h3, h4, hb1⟩; have H1 := Lib.hid h1; have H3 := Lib.hid h3; have H4 := Lib.hid h4; clear h1 h3 h4) | (go_at_call 87; refine (hco _ _ _ _ (HG.out.step hb1) H1.out h2 H3.out H4.out).mono ?_; rintro e w2 ⟨rfl, hb2⟩))
        go_ret
        exact ⟨ret_bool fin.out.symm, belowT hb1 hb2⟩
    · have i0 : ¬ (1 : Int) < (s.size : Int) := by omega
      clear hlit
      go_enter Tryz.func86, Tryz.ntmps86
      go_wp2_with (first | (go_at_call 88; refine hsp.mono ?_; rintro e w1 ⟨b, n, zs, rfl, h1, h2, h3, h4, hb1⟩; have H1 := Lib.hid h1; have H3 := Lib.hid h3; have H4 := Lib.hid h4; clear h1 h3 h4) | (go_at_call 87; refine (hco _ _ _ _ (HG.out.step hb1) H1.out h2 H3.out H4.out).mono ?_; rintro e w2 ⟨rfl, hb2⟩))
      go_ret
      exact ⟨ret_bool fin.out.symm, belowT hb1 hb2⟩

theorem domain_any (s : ByteArray) (hs : s.size < 4294967281) (w : World) (hGL : GL w) :
    Calls Tryz.prog 41 #[.string s] w fun e w' => e = .returned (.bool (domainB s.data.toList)) ∧ Below w.heap.size w w' := by
  have hsh := shaped_any s hs w hGL
  have hsp := fun W (hW : GL W) => split_any s hs W hW
  have hco := splitContains 85 long_enters (fun l => decide (63 < l.length)) s (fun x hx W _ => long_any x W) hs
  have fin0 : domainB s.data.toList = (decide (s.size ≤ 255) && shapedB s.data.toList && !(splitOn 46 s.data.toList).any (fun l => decide (63 < l.length))) := by
    rw [domainB, len_eq]
    congr 1
    rw [← not_any]
    congr 2
    funext x
    rw [Bool.eq_iff_iff]; simp
  generalize hR : ((splitOn 46 s.data.toList).any fun l => decide (63 < l.length)) = R at hco fin0
  generalize hS : shapedB s.data.toList = S at hsh fin0
  have HG := Lib.hid hGL
  clear hR hS hGL
  by_cases h0 : s.size ≤ 255
  · have i0 : (s.size : Int) ≤ 255 := by omega
    rw [decide_eq_true h0] at fin0
    have fin := Lib.hid fin0
    clear fin0
    cases S with
    | true =>
      go_enter Tryz.func41, Tryz.ntmps41
      go_wp2_with (first | (go_at_call 86; refine hsh.mono ?_; rintro e w0 ⟨rfl, hb0⟩) | (go_at_call 88; refine (hsp _ (HG.out.step hb0)).mono ?_; rintro e w1 ⟨b, n, zs, rfl, h1, h2, h3, h4, hb1⟩; have H1 := Lib.hid h1; have H3 := Lib.hid h3; have H4 := Lib.hid h4; clear h1 h3 h4) | (go_at_call 87; refine (hco _ _ _ _ (HG.out.step (belowT hb0 hb1)) H1.out h2 H3.out H4.out).mono ?_; rintro e w2 ⟨rfl, hb2⟩))
      go_ret
      exact ⟨ret_bool fin.out.symm, belowT (belowT hb0 hb1) hb2⟩
    | false =>
      go_enter Tryz.func41, Tryz.ntmps41
      go_wp2_with (go_at_call 86; refine hsh.mono ?_; rintro e w0 ⟨rfl, hb0⟩)
      go_ret
      exact ⟨ret_bool (by rw [fin.out]; rfl), hb0⟩
  · have i0 : ¬ (s.size : Int) ≤ 255 := by omega
    rw [decide_eq_false h0] at fin0
    have fin := Lib.hid fin0
    clear fin0
    go_enter Tryz.func41, Tryz.ntmps41
    go_wp2
    go_ret
    exact ⟨ret_bool (by rw [fin.out]; rfl), Below.refl _ _⟩
end Go.Proofs.YtkmikhinkbbnnaaGreatDoor.M
