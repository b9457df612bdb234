/- Package cmd: paths and sizes behind a word, by hand. -/
import Derived.Test.YtkmikhinkbbnnaaGreatDoorManBA
import Derived.WalkSpells
namespace Go.Proofs.YtkmikhinkbbnnaaGreatDoor.M
open Go.RowKit Go.Proofs.YtkmikhinkbbnnaaGreatDoor.Sp
attribute [local go_sem ↓] Go.wp_at_zero Go.wp_at_succ

/-- Does a text begin so, by small letters? -/
def frontL (l ah : List UInt8) : Bool := decide (ah.length ≤ l.length) && (lower (l.take ah.length) == ah)
def cpathL (l ah : List UInt8) : List UInt8 × List UInt8 × List UInt8 × Bool :=
  if frontL l ah then
    match pathL (Lib.trimLeftB (l.drop ah.length) 32) with
    | (lo, d, r, e) => (lo, d, r, e == 0)
  else ([], [], [], false)
def cpathV (p : List UInt8 × List UInt8 × List UInt8 × Bool) : Value := .tuple #[.agg #[.string ⟨p.1.toArray⟩, .string ⟨p.2.1.toArray⟩], .string ⟨p.2.2.1.toArray⟩, .bool p.2.2.2]

theorem trimLeftB_len (l : List UInt8) (c : UInt8) : (Lib.trimLeftB l c).length ≤ l.length := by
  unfold Lib.trimLeftB
  exact (List.dropWhile_sublist _).length_le

set_option maxHeartbeats 8000000 in
set_option maxRecDepth 100000 in
theorem cpath_any (s ah : ByteArray) (hs : s.size ≤ 2000000000) (ha : ah.size ≤ 100) (w : World) (hGL : GL w) :
    Calls Tryz.prog 116 #[.string s, .string ah] w fun e w' => e = .returned (cpathV (cpathL s.data.toList ah.data.toList)) ∧ Below w.heap.size w w' := by
  have hla := len_eq ah
  have hls := len_eq s
  by_cases hlen : ah.size ≤ s.size
  · have i0 : (0 : Int) ≤ (ah.size : Int) := by omega
    have i1 : (ah.size : Int) ≤ (s.size : Int) := by omega
    have i2 : ¬ (s.size : Int) < (ah.size : Int) := by omega
    have i3 : decide (s.size < ah.size) = false := decide_eq_false (by omega)
    have cl := fun W => lower_walk (s.extract 0 ah.size) (by rw [ByteArray.size_extract]; omega) _ rfl W
    generalize hz : (⟨(lower (s.extract 0 ah.size).data.toList).toArray⟩ : ByteArray) = z at cl
    have hz2 : z.data.toList = lower (s.data.toList.take ah.size) := by rw [← hz, Lib.extract_from_zero]
    have hq : (((z.toList == ah.toList)) : Bool) = frontL s.data.toList ah.data.toList := by
      rw [str_eq, hz2, frontL, hla, hls, decide_eq_true hlen]; rfl
    have hq' : (((z.toList != ah.toList)) : Bool) = !frontL s.data.toList ah.data.toList := congrArg (fun x => !x) hq
    have HF : Hid (cpathL s.data.toList ah.data.toList = if frontL s.data.toList ah.data.toList then (match pathL (Lib.trimLeftB (s.data.toList.drop ah.size) 32) with
        | (lo, d, r, e) => (lo, d, r, e == 0)) else ([], [], [], false)) := Lib.hid (by rw [cpathL, hla])
    generalize frontL s.data.toList ah.data.toList = m at hq hq' HF
    clear hz hz2
    cases m with
    | false =>
      clear hla hls
      go_enter Tryz.func116, Tryz.ntmps116
      go_wp2_with (go_at_call 69; refine (cl _).mono ?_; rintro e w1 ⟨rfl, HB⟩; have Z1 := Lib.hid (addr_new HB); have B1 := Lib.hid (belowT (belowA (Below.refl _ _) _) HB); obtain ⟨z10, z11, z12, z13⟩ := Z1.out)
      (try simp only [Exit.inBlock, Exit.then])
      have Z9 := (Z1.out.set0 (⟨#[]⟩)).set1 (⟨#[]⟩)
      refine bodyPost_ret (results_ctt rfl _ _ w.heap.size _ _ _ rfl Z9.c0 Z9.c1 Tryz.underlying23 rfl (by kernel_rfl)) rfl ?_
      refine ⟨?_, (B1.out.setCell (p := ⟨w.heap.size, 0, none⟩) (Nat.le_refl _) _).setCell (p := ⟨w.heap.size, 1, none⟩) (Nat.le_refl _) _⟩
      rw [HF.out]; rfl
    | true =>
      have ct := Tryz.strings_TrimLeft_one (s.extract ah.size s.size) 32 (by decide)
      generalize hy : (⟨(Lib.trimLeftB (s.extract ah.size s.size).data.toList 32).toArray⟩ : ByteArray) = y at ct
      have hy2 : y.data.toList = Lib.trimLeftB (s.data.toList.drop ah.size) 32 := by rw [← hy, extract_end]
      have hyl : y.size ≤ s.size := by
        have h1 := trimLeftB_len (s.data.toList.drop ah.size) 32
        rw [← hy2, len_eq, List.length_drop, hls] at h1; omega
      have cp := fun W (hW : GL W) => path_any y (by omega) W hW
      rw [← hy2] at HF
      rcases hp : pathL y.data.toList with ⟨lo, d, r, e⟩
      rw [hp] at cp HF
      clear hy hy2 hp hla hls
      change ∀ W, GL W → Calls _ _ _ W (fun e' w' => e' = Ending.returned (.tuple #[.agg #[.string ⟨lo.toArray⟩, .string ⟨d.toArray⟩], .string ⟨r.toArray⟩, .int .i64 e]) ∧ _) at cp
      generalize hlo : (⟨lo.toArray⟩ : ByteArray) = lo' at cp
      generalize hd : (⟨d.toArray⟩ : ByteArray) = d' at cp
      generalize hr : (⟨r.toArray⟩ : ByteArray) = r' at cp
      have HV : Hid (cpathV (lo, d, r, e == 0) = .tuple #[.agg #[.string lo', .string d'], .string r', .bool (e == 0)]) := Lib.hid (by rw [cpathV, hlo, hd, hr])
      have i4 : (s.size : Int) ≤ (s.size : Int) := Int.le_refl _
      clear hlo hd hr i4
      go_enter Tryz.func116, Tryz.ntmps116
      go_wp2_with (first | (go_at_call 69; refine (cl _).mono ?_; rintro e w1 ⟨rfl, HB⟩; have Z1 := Lib.hid (addr_new HB); have B1 := Lib.hid (belowT (belowA (Below.refl _ _) _) HB); obtain ⟨z10, z11, z12, z13⟩ := Z1.out) | (go_at_call 154; refine (ct _).mono ?_; rintro e' w2 ⟨rfl, rfl⟩) | (go_at_call 106; refine (cp _ (hGL.step B1.out)).mono ?_; rintro e' w3 ⟨rfl, HB3⟩; have Z3 := Lib.hid (Z1.out.below HB3); have B3 := Lib.hid (belowT B1.out HB3); obtain ⟨z30, z31, z32, z33⟩ := Z3.out; have za0 := (fun o => (Z3.out.below (belowA (Below.refl _ _) o)).c0); have za1 := (fun o => (Z3.out.below (belowA (Below.refl _ _) o)).c1); have za2 := (fun o => (Z3.out.below (belowA (Below.refl _ _) o)).f0); have za3 := (fun o => (Z3.out.below (belowA (Below.refl _ _) o)).f1)))
      (try simp only [Exit.inBlock, Exit.then])
      have Z9 := ((Z3.out.below (belowA (Below.refl _ _) (.cells #[.string lo', .string d'] 23))).set0 (lo')).set1 (d')
      refine bodyPost_ret (results_ctt rfl _ _ w.heap.size _ _ _ rfl Z9.c0 Z9.c1 Tryz.underlying23 rfl (by kernel_rfl)) rfl ?_
      refine ⟨?_, ((belowA B3.out (.cells #[.string lo', .string d'] 23)).setCell (p := ⟨w.heap.size, 0, none⟩) (Nat.le_refl _) _).setCell (p := ⟨w.heap.size, 1, none⟩) (Nat.le_refl _) _⟩
      rw [HF.out, if_pos trivial]; exact congrArg Ending.returned HV.out.symm
  · have i2 : (s.size : Int) < (ah.size : Int) := by omega
    have i3 : decide (s.size < ah.size) = true := decide_eq_true (by omega)
    have HF : Hid (cpathL s.data.toList ah.data.toList = ([], [], [], false)) := Lib.hid (by
      rw [cpathL, frontL, hla, hls, decide_eq_false hlen]; rfl)
    clear hla hls
    go_enter Tryz.func116, Tryz.ntmps116
    go_wp2
    have Z9 := addr_new (w := w) (t := 23) (Below.refl _ _)
    (try simp only [Exit.inBlock, Exit.then])
    refine bodyPost_ret (results_ctt rfl _ _ w.heap.size _ _ _ rfl Z9.c0 Z9.c1 Tryz.underlying23 rfl (by kernel_rfl)) rfl ?_
    refine ⟨?_, belowA (Below.refl _ _) _⟩
    rw [HF.out]; rfl

/-- What a size comes to: a number, if it is one. -/
def sizeB (l : List UInt8) : Bool := (sizeR l).2
def SizeEnd (l : List UInt8) (e : Ending) : Prop := ∃ v, e = .returned (.tuple #[.int .i64 v, .bool (sizeB l)]) ∧ (sizeB l = true → v = (sizeR l).1)

theorem trim_digits (s : ByteArray) (hs : s.size ≤ 2000000000) (w : World) :
    Calls Tryz.prog 156 #[.string s, .string ⟨#[48, 49, 50, 51, 52, 53, 54, 55, 56, 57]⟩] w fun e w' => e = .returned (.string ⟨(Lib.trimS s.data.toList [48, 49, 50, 51, 52, 53, 54, 55, 56, 57]).toArray⟩) ∧ Below w.heap.size w w' :=
  Any.strings_Trim_laid Tryz.lays160 (by kernel_rfl) s ⟨#[48, 49, 50, 51, 52, 53, 54, 55, 56, 57]⟩ w (by omega) (by decide) (Go.Proofs.ascii_of_all (by decide))

theorem sizeB_not {l : List UInt8} (h : ¬ (6 ≤ l.length ∧ lower (l.take 6) = ahead)) : sizeB l = false := by unfold sizeB sizeR; rw [if_neg h]
theorem sizeB_front {l : List UInt8} (h : 6 ≤ l.length ∧ lower (l.take 6) = ahead) : sizeB l = sizeOk (l.drop 6) ∧ (sizeR l).1 = sizeNum (l.drop 6) := by unfold sizeB sizeR; rw [if_pos h]; exact ⟨rfl, rfl⟩
theorem sizeEnd_no {l : List UInt8} {v : Int} (h : sizeB l = false) : SizeEnd l (.returned (.tuple #[.int .i64 v, .bool false])) := ⟨v, by rw [h], fun h' => by rw [h] at h'; cases h'⟩
set_option maxHeartbeats 8000000 in
set_option maxRecDepth 100000 in
theorem size_any (s : ByteArray) (hs : s.size ≤ 2000000000) (w : World) (hGL : GL w) :
    Calls Tryz.prog 117 #[.string s] w fun e w' => SizeEnd s.data.toList e ∧ Below w.heap.size w w' := by
  have hls := len_eq s
  have HG := Lib.hid hGL
  by_cases hlen : 6 ≤ s.size
  · have i1 : (6 : Int) ≤ (s.size : Int) := by omega
    have i2 : ¬ (s.size : Int) < 6 := by omega
    have cl := fun W => lower_walk (s.extract 0 6) (by rw [ByteArray.size_extract]; omega) _ rfl W
    generalize hz : (⟨(lower (s.extract 0 6).data.toList).toArray⟩ : ByteArray) = z at cl
    have hz2 : z.data.toList = lower (s.data.toList.take 6) := by rw [← hz, Lib.extract_from_zero]
    by_cases hf : lower (s.data.toList.take 6) = ahead
    · have hzl : z = ⟨#[32, 115, 105, 122, 101, 61]⟩ := bstr (hz2.trans hf)
      obtain ⟨hb, hn⟩ := sizeB_front (l := s.data.toList) ⟨by omega, hf⟩
      subst hzl
      clear hz hz2
      have hd : (s.extract 6 s.size).data.toList = s.data.toList.drop 6 := extract_end s 6
      have hdz : (s.extract 6 s.size).size ≤ 2000000000 := by rw [ByteArray.size_extract]; omega
      generalize hdd : s.extract 6 s.size = d at hd hdz
      rw [← hd] at hb hn
      have hdd' : s.extract 6 s.size = d := hdd
      clear hdd hf
      by_cases hA : ∃ v, Lib.atoiAll d.data.toList = .ok v
      · obtain ⟨v, hv⟩ := hA
        have ca := atoi_ok d (by omega) v hv
        have hb2 : sizeB s.data.toList = (decide (d.size ≤ 9) && (Lib.trimS d.data.toList [48, 49, 50, 51, 52, 53, 54, 55, 56, 57]).isEmpty) := by rw [hb, sizeOk, hv, len_eq]
        have hn2 : (sizeR s.data.toList).1 = v := by rw [hn, sizeNum, hv]
        have HN := Lib.hid hn2
        by_cases h9 : d.size ≤ 9
        · have ct := trim_digits d hdz
          generalize hq : (⟨(Lib.trimS d.data.toList [48, 49, 50, 51, 52, 53, 54, 55, 56, 57]).toArray⟩ : ByteArray) = q at ct
          have HM : Hid (sizeB s.data.toList = q.toList.isEmpty) := Lib.hid (by rw [hb2, decide_eq_true h9, Go.ByteArray.toList_eq, ← hq]; rfl)
          have i3 : (d.size : Int) ≤ 9 := by omega
          clear hq hb hn hb2 hn2 hv hd hls
          go_enter Tryz.func117, Tryz.ntmps117
          go_wp2_with (first | (go_at_call 69; refine (cl _).mono ?_; rintro e w1 ⟨rfl, HB1⟩) | (go_at_call 155; refine (ca _).mono ?_; rintro e w2 ⟨rfl, HB2⟩) | (go_at_call 156; refine (ct _).mono ?_; rintro e w3 ⟨rfl, HB3⟩))
          go_ret2
          exact ⟨⟨v, by rw [HM.out]; rfl, fun _ => HN.out.symm⟩, belowT (belowT HB1 HB2) HB3⟩
        · have i3 : ¬ (d.size : Int) ≤ 9 := by omega
          have HM : Hid (sizeB s.data.toList = false) := Lib.hid (by rw [hb2, decide_eq_false h9]; rfl)
          clear hb hn hb2 hn2 hv hd hls
          go_enter Tryz.func117, Tryz.ntmps117
          go_wp2_with (first | (go_at_call 69; refine (cl _).mono ?_; rintro e w1 ⟨rfl, HB1⟩) | (go_at_call 155; refine (ca _).mono ?_; rintro e w2 ⟨rfl, HB2⟩))
          go_ret2
          exact ⟨sizeEnd_no HM.out, belowT HB1 HB2⟩
      · have hno : ∀ v, Lib.atoiAll d.data.toList ≠ .ok v := fun v hv => hA ⟨v, hv⟩
        have ca := fun W (hW : GL W) => atoi_bad d (by omega) hno W hW
        have HM : Hid (sizeB s.data.toList = false) := Lib.hid (by
          rw [hb]; unfold sizeOk
          split
          · rename_i v hv; exact absurd hv (hno v)
          · rfl)
        clear hb hn hd hls hA hno
        go_enter Tryz.func117, Tryz.ntmps117
        go_wp2_with (first | (go_at_call 69; refine (cl _).mono ?_; rintro e w1 ⟨rfl, HB1⟩) | (go_at_call 155; refine (ca _ (HG.out.step HB1)).mono ?_; rintro e w2 ⟨⟨v, tp, N, rfl⟩, HB2⟩))
        go_ret2
        exact ⟨sizeEnd_no HM.out, belowT HB1 HB2⟩
    · have hne : ((z.toList != [32, 115, 105, 122, 101, 61]) : Bool) = true := by
        rw [Go.ByteArray.toList_eq, hz2, bne_iff_ne]; exact hf
      have HM : Hid (sizeB s.data.toList = false) := Lib.hid (sizeB_not (fun h => hf h.2))
      have hne2 : ((z.toList == [32, 115, 105, 122, 101, 61]) : Bool) = false := beq_eq_false_iff_ne.2 (bne_iff_ne.1 hne)
      clear hz hz2 hf hls
      go_enter Tryz.func117, Tryz.ntmps117
      go_wp2_with (go_at_call 69; refine (cl _).mono ?_; rintro e w1 ⟨rfl, HB1⟩)
      go_ret2
      exact ⟨sizeEnd_no HM.out, HB1⟩
  · have i1 : (s.size : Int) < 6 := by omega
    have HM : Hid (sizeB s.data.toList = false) := Lib.hid (sizeB_not (fun h => hlen (by omega)))
    clear hls
    go_enter Tryz.func117, Tryz.ntmps117
    go_wp2
    go_ret2
    exact ⟨sizeEnd_no HM.out, Below.refl _ _⟩
end Go.Proofs.YtkmikhinkbbnnaaGreatDoor.M
