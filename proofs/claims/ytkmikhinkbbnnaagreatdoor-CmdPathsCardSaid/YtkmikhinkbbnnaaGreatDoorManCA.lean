/- The reference's addresses (mailbagref14), by hand: texts, which may be. -/
import Derived.Test.YtkmikhinkbbnnaaGreatDoorManAA
import Derived.Deep.AppendLies
import Derived.Deep.RegionHeld3
import Derived.Deep.DrawnRows
namespace Go.Proofs.YtkmikhinkbbnnaaGreatDoor.M
open Go.RowKit Go.Proofs.YtkmikhinkbbnnaaGreatDoor.Sp
attribute [local go_sem ↓] Go.wp_at_zero Go.wp_at_succ

theorem isE_tl {s : ByteArray} (h : s.data.toList = []) : s.toList.isEmpty = true := by rw [Go.ByteArray.toList_eq, h]; rfl
theorem isE_tl' {s : ByteArray} (h : ¬ s.data.toList = []) : s.toList.isEmpty = false := by rw [Go.ByteArray.toList_eq]; exact isE_no h

section
variable {ops : Array Oper} {o : Oper} {a : Act} {K : Act → World → Prop} {Q : Exit → Act → World → Prop} {E : Prop}
/-- 'append(v, x..)' at a step of a region that draws, x a row of a block that stands. -/
theorem stepB {W : World} (base : Nat) (hgd : o.guard = none) (s x : Operand) (ho : o.op = .call { callee := .builtin .append, args := #[s, x], argTypes := #[28, 28] })
    (v : Value) (l m : List UInt8) (hs : a.eval s = v) (ad : Addr) (c : Nat) (hx : a.eval x = .slice (some ad) m.length c) (hnews : ∀ (j : Nat) (h : j < m.length), W.cell? (ad.add j) = some (.int .u8 (m[j].toNat : Int)))
    (HO : OwnB W base v l) (hm : 0 < m.length) (hbase : base ≤ W.heap.size) (hl : l.length + m.length ≤ 140737488355328)
    (h : ∀ v1 w1, OwnB w1 base v1 (l ++ m) → Below base W w1 → K (a.put o.dst v1) w1) :
    if Region.wanted o (yielded ops a.tmps) = true then Oper.wp Tryz.prog o a W K Q else E := by
  obtain ⟨i0, hi, hzz⟩ := Option.map_eq_some_iff.1 infoU8
  simp only [Prod.mk.injEq] at hzz
  obtain ⟨hz0, hz1, hz2⟩ := hzz
  refine step_append_lies W hgd s x 28 ho base 5 i0 (.int .u8 0) 1 1 Tryz.underlying28 hi hz0 hz1 hz2 rfl (by decide) v l.length (bc l) hs HO ad m.length c (bc m) hx (by simp [bc])
    (fun j u hj => ?_) (fun u hu => ?_) hm (by simp only [maxLen]; omega) (by omega) hbase W.heap.size rfl (fun g cap w1 h1 h2 _ _ => h _ w1 ?_ ?_)
  · have hjm : j < m.length := by
      rcases Nat.lt_or_ge j m.length with h' | h'
      · exact h'
      · rw [List.getElem?_eq_none (by rw [bc_length]; exact h')] at hj; cases hj
    have hv := hnews j hjm
    simp only [bc, List.getElem?_map, List.getElem?_eq_getElem hjm, Option.map_some, Option.some.injEq] at hj
    rw [hv, hj]
  · simp only [bc, List.mem_map] at hu
    obtain ⟨b, _, rfl⟩ := hu
    rfl
  · unfold OwnB
    rw [List.length_append, bc_append]
    exact h1
  · exact (Below.refl _ _).grown h2 hbase (fun k hk => by
      rcases HO.2 with ⟨rfl, _⟩ | ⟨g, cap, cur, rfl, hb, _⟩
      · simp [Value.ownBlock] at hk
      · have : g = k := by simpa [Value.ownBlock] using hk
        omega)
theorem stepB1 {W : World} (base : Nat) (hgd : o.guard = none) (s x : Operand) (ho : o.op = .call { callee := .builtin .append, args := #[s, x], argTypes := #[28, 28] })
    (v : Value) (l : List UInt8) (b : UInt8) (hs : a.eval s = v) (g : Nat) (hx : a.eval x = .slice (some ⟨g, 0, none⟩) 1 1) (hg : W.cell? ⟨g, 0, none⟩ = some (.int .u8 (b.toNat : Int)))
    (HO : OwnB W base v l) (hbase : base ≤ W.heap.size) (hl : l.length + 1 ≤ 140737488355328)
    (h : ∀ v1 w1, OwnB w1 base v1 (l ++ [b]) → Below base W w1 → K (a.put o.dst v1) w1) :
    if Region.wanted o (yielded ops a.tmps) = true then Oper.wp Tryz.prog o a W K Q else E :=
  stepB base hgd s x ho v l [b] hs ⟨g, 0, none⟩ 1 hx (fun j hj => by
    have h0 : j = 0 := by simp at hj; omega
    subst h0
    exact hg) HO (by simp) hbase hl h
end

theorem size_of_arr (l : List UInt8) : (⟨l.toArray⟩ : ByteArray).size = l.length := by rw [← len_eq]

def textL (lo d : List UInt8) : List UInt8 := if nullB lo d then [60, 62] else toldL lo d
theorem textL_null {lo d : List UInt8} (h1 : lo = []) (h2 : d = []) : textL lo d = [60, 62] := by rw [h1, h2]; rfl
theorem textL_l {lo d : List UInt8} (h : ¬ lo = []) : textL lo d = toldL lo d := by rw [textL, nullB, isE_no h]; rfl
theorem textL_d {lo d : List UInt8} (h : ¬ d = []) : textL lo d = toldL lo d := by rw [textL, nullB, isE_no h, Bool.and_false]; rfl

def TextEnd (lo d : ByteArray) (w : World) (e : Ending) (w' : World) : Prop := e = .returned (.string ⟨(textL lo.data.toList d.data.toList).toArray⟩) ∧ Below w.heap.size w w'

theorem rtext_null (lo d : ByteArray) (h1 : lo.data.toList = []) (h2 : d.data.toList = []) (w : World) :
    Calls Tryz.prog 70 #[.agg #[.string lo, .string d]] w (TextEnd lo d w) := by
  have g1 := isE_tl h1
  have g2 := isE_tl h2
  have HF := Lib.hid (textL_null h1 h2)
  clear h1 h2
  go_enter Tryz.func70, Tryz.ntmps70
  go_wp2
  go_ret
  exact ⟨by rw [HF.out]; rfl, belowA (Below.refl _ _) _⟩

theorem rtext_plain (lo d : ByteArray) (hl : lo.size ≤ 4000000000) (hd : d.size ≤ 4000000000) (he : Hid (textL lo.data.toList d.data.toList = toldL lo.data.toList d.data.toList))
    (hn : (lo.toList.isEmpty = false) ∨ (lo.toList.isEmpty = true ∧ d.toList.isEmpty = false)) (hp : plainB lo.data.toList = true) (w : World) :
    Calls Tryz.prog 70 #[.agg #[.string lo, .string d]] w (TextEnd lo d w) := by
  have cp := fun W => rplain_any lo (by omega) W
  rw [hp] at cp
  have HF : Hid (textL lo.data.toList d.data.toList = [60] ++ lo.data.toList ++ [64] ++ d.data.toList ++ [62]) := Lib.hid (by rw [he.out]; simp [toldL, hp])
  clear hp he
  rcases hn with g1 | ⟨g1, g2⟩
  all_goals
    go_enter Tryz.func70, Tryz.ntmps70
    go_wp2_with (go_at_call 111; refine (cp _).mono ?_; rintro e w1 ⟨rfl, rfl⟩)
    go_ret
    exact ⟨congrArg (fun z => Ending.returned (.string z)) (bstr (by rw [HF.out]; simp [ByteArray.data_append])), belowA (Below.refl _ _) _⟩

set_option maxHeartbeats 8000000 in
set_option maxRecDepth 100000 in
theorem rtext_quoted (lo d : ByteArray) (hl : lo.size ≤ 4000000000) (hd : d.size ≤ 4000000000) (he : Hid (textL lo.data.toList d.data.toList = toldL lo.data.toList d.data.toList))
    (hn : (lo.toList.isEmpty = false) ∨ (lo.toList.isEmpty = true ∧ d.toList.isEmpty = false)) (hp : plainB lo.data.toList = false) (w : World) :
    Calls Tryz.prog 70 #[.agg #[.string lo, .string d]] w (TextEnd lo d w) := by
  have hlen0 := Lib.hid (len_eq lo)
  have cp := fun W => rplain_any lo (by omega) W
  rw [hp] at cp
  have HF : Hid (textL lo.data.toList d.data.toList = [60] ++ ([34] ++ quoteL lo.data.toList ++ [34]) ++ [64] ++ d.data.toList ++ [62]) := Lib.hid (by rw [he.out]; simp [toldL, hp])
  clear hp he
  rcases hn with g1 | ⟨g1, g2⟩
  all_goals
    go_enter Tryz.func70, Tryz.ntmps70
    go_wp2_with (go_at_call 111; refine (cp _).mono ?_; rintro e w1 ⟨rfl, rfl⟩)
    clear cp
    go_loopw [3, 4] (fun b i wr => ∃ (k : Nat) (acc : List UInt8) (bv : Value), k ≤ lo.size ∧ acc.length ≤ 2 * k + 2 ∧ i = .int .i64 k ∧ bv = b ∧ Hid (OwnB wr (w.heap.size + 1) bv acc) ∧ Hid (Below (w.heap.size + 1) (w.alloc (.cells #[.string lo, .string d] 23)) wr) ∧ Hid (acc = [60, 34] ++ quoteL (lo.data.toList.take k))) (fun _ i _ => lo.size - (intOf i).toNat)
    case atStart => exact ⟨0, [60, 34], _, by omega, by simp, rfl, rfl, Lib.hid (by have h := ownB_lit (w.alloc (.cells #[.string lo, .string d] 23)) (w.heap.size + 1) [60, 34] (by simp) (by decide); rwa [show (w.alloc (.cells #[.string lo, .string d] 23)).heap.size = w.heap.size + 1 by simp] at h), Lib.hid ((Below.refl _ _).alloc (by simp) _), Lib.hid rfl⟩
    case round =>
      obtain ⟨k, acc, bv, hk, hacc, rfl, rfl, HO, HB2, HQ⟩ := hrel
      have hc0 : wr.cell? ⟨w.heap.size, 0, none⟩ = some (.string lo) := (HB2.out.cell (by show w.heap.size < w.heap.size + 1; omega)).trans (World.cell?_alloc_new ..)
      have hc1 : wr.cell? ⟨w.heap.size, 1, none⟩ = some (.string d) := (HB2.out.cell (by show w.heap.size < w.heap.size + 1; omega)).trans (World.cell?_alloc_new ..)
      have hsz : w.heap.size + 1 ≤ wr.heap.size := by have := HB2.out.size; simpa using this
      by_cases hlt : k < lo.size
      · have HT := Lib.hid (take_get lo k hlt)
        have hstep : ∀ m : List UInt8, (if lo[k] = 34 ∨ lo[k] = 92 then [92, lo[k]] else [lo[k]]) = m → Hid (acc ++ m = [60, 34] ++ quoteL (lo.data.toList.take (k + 1))) := fun m hm => Lib.hid (by rw [HT.out, HQ.out, ← hm]; simp [quoteL])
        by_cases h34 : lo[k] = 34
        · have q0 : (((lo[k].toNat : Int) == 34) : Bool) = true := u8_lit lo[k] 34 h34
          have hst := hstep _ (if_pos (.inl h34))
          clear h34 hstep
          go_wp2_with (first | (at_builtin; refine appB1 (w.heap.size + 1) rfl _ _ rfl bv acc 92 rfl rfl HO.out hsz (by omega) ?_; intro v1 w2 HO1 HB1; have hl92 : (acc ++ [92]).length ≤ 2 * k + 3 := (by rw [List.length_append]; simp; omega); have hc2 := (HB1.cell (p := ⟨w.heap.size, 0, none⟩) (by show w.heap.size < _; omega)).trans hc0) | (at_builtin; refine appB1 (w.heap.size + 1) rfl _ _ rfl v1 (acc ++ [92]) lo[k] rfl rfl HO1 (Nat.le_trans hsz (Below.size HB1)) (by omega) ?_; intro v2 w3 HO2 HB3))
          go_roundw
          case rel => exact ⟨k + 1, acc ++ [92] ++ [lo[k]], v2, by omega, by rw [List.length_append]; simp; omega, by go_num, rfl, Lib.hid HO2, Lib.hid ((HB2.out.trans HB1).trans HB3), Lib.hid (by rw [List.append_assoc]; exact hst.out)⟩
          case measure => simp [intOf]; omega
        · by_cases h92 : lo[k] = 92
          · have q0 : (((lo[k].toNat : Int) == 34) : Bool) = false := u8_nlit lo[k] 34 h34
            have q1 : (((lo[k].toNat : Int) == 92) : Bool) = true := u8_lit lo[k] 92 h92
            have hst := hstep _ (if_pos (.inr h92))
            clear h34 h92 hstep
            go_wp2_with (first | (at_builtin; refine appB1 (w.heap.size + 1) rfl _ _ rfl bv acc 92 rfl rfl HO.out hsz (by omega) ?_; intro v1 w2 HO1 HB1; have hl92 : (acc ++ [92]).length ≤ 2 * k + 3 := (by rw [List.length_append]; simp; omega); have hc2 := (HB1.cell (p := ⟨w.heap.size, 0, none⟩) (by show w.heap.size < _; omega)).trans hc0) | (at_builtin; refine appB1 (w.heap.size + 1) rfl _ _ rfl v1 (acc ++ [92]) lo[k] rfl rfl HO1 (Nat.le_trans hsz (Below.size HB1)) (by omega) ?_; intro v2 w3 HO2 HB3))
            go_roundw
            case rel => exact ⟨k + 1, acc ++ [92] ++ [lo[k]], v2, by omega, by rw [List.length_append]; simp; omega, by go_num, rfl, Lib.hid HO2, Lib.hid ((HB2.out.trans HB1).trans HB3), Lib.hid (by rw [List.append_assoc]; exact hst.out)⟩
            case measure => simp [intOf]; omega
          · have q0 : (((lo[k].toNat : Int) == 34) : Bool) = false := u8_nlit lo[k] 34 h34
            have q1 : (((lo[k].toNat : Int) == 92) : Bool) = false := u8_nlit lo[k] 92 h92
            have hst := hstep _ (if_neg (fun e => e.elim h34 h92))
            clear h34 h92 hstep
            go_wp2_with (at_builtin; refine appB1 (w.heap.size + 1) rfl _ _ rfl bv acc lo[k] rfl rfl HO.out hsz (by omega) ?_; intro v1 w2 HO1 HB1)
            go_roundw
            case rel => exact ⟨k + 1, acc ++ [lo[k]], v1, by omega, by rw [List.length_append]; simp; omega, by go_num, rfl, Lib.hid HO1, Lib.hid (HB2.out.trans HB1), hst⟩
            case measure => simp [intOf]; omega
      · have hfin : Hid ([60] ++ ([34] ++ quoteL lo.data.toList ++ [34]) = acc ++ [34]) := Lib.hid (by rw [HQ.out, List.take_of_length_le (by rw [hlen0.out]; omega)]; rfl)
        go_wp2
        have hcA := fun o => ((belowA (Below.refl wr.heap.size wr) o).cell (World.block_lt_of_cell? wr _ hc1)).trans hc1
        have nb1 : ¬ 9223372036854775807 < acc.length + 1 + 1 := by omega
        have nb2 : ¬ 9223372036854775807 < acc.length + 1 + 1 + d.size := by omega
        have nb3 : ¬ 9223372036854775807 < acc.length + 1 + 1 + d.size + 1 := by omega
        go_region_law ((refine stepB1 (w.heap.size + 1) rfl _ _ rfl bv acc 34 rfl _ rfl (by simp) (ownB_below HO.out (by first | exact belowD (belowA (Below.refl _ _) _) | exact belowA (Below.refl _ _) _)) (by simp <;> omega) (by omega) ?_; intro v1 w1 HO1 HB1; have hcv := ownB_string HO1; have hcB := (HB1.cell (p := ⟨w.heap.size, 1, none⟩) (by show w.heap.size < _; omega)).trans (hcA _)))
        all_goals go_wp2
        all_goals go_ret
        all_goals exact ⟨congrArg (fun z => Ending.returned (.string z)) (bstr (by rw [HF.out, hfin.out]; simp [ByteArray.data_append])), ((((Below.refl w.heap.size w).alloc (Nat.le_refl _) _).trans (HB2.out.mono (Nat.le_succ _))).trans (by first | exact belowD ((Below.refl _ _).alloc (by omega) _) | exact (Below.refl _ _).alloc (by omega) _)).trans (HB1.mono (Nat.le_succ _))⟩

theorem rtext_any (lo d : ByteArray) (hl : lo.size ≤ 4000000000) (hd : d.size ≤ 4000000000) (w : World) :
    Calls Tryz.prog 70 #[.agg #[.string lo, .string d]] w (TextEnd lo d w) := by
  have go : ∀ (he : Hid (textL lo.data.toList d.data.toList = toldL lo.data.toList d.data.toList)) (hn : (lo.toList.isEmpty = false) ∨ (lo.toList.isEmpty = true ∧ d.toList.isEmpty = false)),
      Calls Tryz.prog 70 #[.agg #[.string lo, .string d]] w (TextEnd lo d w) := fun he hn => by
    cases hp : plainB lo.data.toList with
    | true => exact rtext_plain lo d hl hd he hn hp w
    | false => exact rtext_quoted lo d hl hd he hn hp w
  by_cases h1 : lo.data.toList = []
  · by_cases h2 : d.data.toList = []
    · exact rtext_null lo d h1 h2 w
    · exact go (Lib.hid (textL_d h2)) (.inr ⟨isE_tl h1, isE_tl' h2⟩)
  · exact go (Lib.hid (textL_l h1)) (.inl (isE_tl' h1))

set_option maxHeartbeats 4000000 in
set_option maxRecDepth 100000 in
theorem rright_any (lo d : ByteArray) (hl : lo.size ≤ 4000000000) (hd : d.size ≤ 4000000000) (w : World) :
    Calls Tryz.prog 50 #[.agg #[.string lo, .string d]] w fun e w' => e = .returned (.bool (rightB lo.data.toList d.data.toList)) ∧ Below w.heap.size w w' := by
  have cl := fun W => rlocal_any lo (by omega) W
  have cd := fun W => rdomain_any d (by omega) W
  rw [domain_eq] at cd
  have ct := fun W => rtext_any lo d hl hd W
  have go : ∀ (hn : (lo.toList.isEmpty = false) ∨ (lo.toList.isEmpty = true ∧ d.toList.isEmpty = false)) (_ : nullB lo.data.toList d.data.toList = false),
      Calls Tryz.prog 50 #[.agg #[.string lo, .string d]] w fun e w' => e = .returned (.bool (rightB lo.data.toList d.data.toList)) ∧ Below w.heap.size w w' := fun hn hnull => by
    have HS : Hid (rightB lo.data.toList d.data.toList = (localB lo.data.toList && domainB d.data.toList && decide ((⟨(textL lo.data.toList d.data.toList).toArray⟩ : ByteArray).size ≤ 256))) := Lib.hid (by
      rw [rightB, textL, hnull, Bool.false_or, size_of_arr]; rfl)
    unfold TextEnd at ct
    generalize localB lo.data.toList = l at cl HS
    generalize domainB d.data.toList = m at cd HS
    generalize (⟨(textL lo.data.toList d.data.toList).toArray⟩ : ByteArray) = t at ct HS
    clear hnull
    cases l with
    | false =>
      rcases hn with g1 | ⟨g1, g2⟩
      all_goals
        go_enter Tryz.func50, Tryz.ntmps50
        go_wp2_with (go_at_call 98; refine (cl _).mono ?_; rintro e w2 ⟨rfl, rfl⟩)
        go_ret
        exact ⟨ret_bool (by rw [HS.out]; rfl), belowA (Below.refl _ _) _⟩
    | true => cases m with
      | false =>
        rcases hn with g1 | ⟨g1, g2⟩
        all_goals
          go_enter Tryz.func50, Tryz.ntmps50
          go_wp2_with (first | (go_at_call 98; refine (cl _).mono ?_; rintro e w2 ⟨rfl, rfl⟩) | (go_at_call 77; refine (cd _).mono ?_; rintro e w2 ⟨rfl, rfl⟩))
          go_ret
          exact ⟨ret_bool (by rw [HS.out]; rfl), belowA (Below.refl _ _) _⟩
      | true =>
        rcases hn with g1 | ⟨g1, g2⟩
        all_goals
          go_enter Tryz.func50, Tryz.ntmps50
          go_wp2_with (first | (go_at_call 98; refine (cl _).mono ?_; rintro e w2 ⟨rfl, rfl⟩) | (go_at_call 77; refine (cd _).mono ?_; rintro e w2 ⟨rfl, rfl⟩) | (go_at_call 70; refine (ct _).mono ?_; rintro e w3 ⟨rfl, HB3⟩))
          go_ret
          exact ⟨ret_bool (by rw [HS.out]; simp; omega), belowT (belowA (Below.refl _ _) _) HB3⟩
  by_cases h1 : lo.data.toList = []
  · by_cases h2 : d.data.toList = []
    · have g1 := isE_tl h1
      have g2 := isE_tl h2
      have HF : Hid (rightB lo.data.toList d.data.toList = true) := Lib.hid (by rw [h1, h2]; rfl)
      clear h1 h2 go cl cd ct
      go_enter Tryz.func50, Tryz.ntmps50
      go_wp2
      go_ret
      exact ⟨ret_bool HF.out.symm, belowA (Below.refl _ _) _⟩
    · exact go (.inr ⟨isE_tl h1, isE_tl' h2⟩) (by rw [nullB, isE_no h2, Bool.and_false])
  · exact go (.inl (isE_tl' h1)) (by rw [nullB, isE_no h1]; rfl)

set_option maxHeartbeats 4000000 in
set_option maxRecDepth 100000 in
theorem rprint_any (lo d : ByteArray) (hl : lo.size ≤ 4000000000) (hd : d.size ≤ 4000000000) (w : World) :
    Calls Tryz.prog 24 #[.agg #[.string lo, .string d]] w fun e w' => e = .returned (.string ⟨(printL lo.data.toList d.data.toList).toArray⟩) ∧ Below w.heap.size w w' := by
  have cr := fun W => rright_any lo d hl hd W
  have ct := fun W => rtext_any lo d hl hd W
  unfold TextEnd at ct
  have HS : Hid (printL lo.data.toList d.data.toList = (if rightB lo.data.toList d.data.toList then textL lo.data.toList d.data.toList else [])) := Lib.hid (by
    unfold printL textL rightB
    cases nullB lo.data.toList d.data.toList <;> rfl)
  generalize rightB lo.data.toList d.data.toList = r at cr HS
  cases r with
  | false =>
    go_enter Tryz.func24, Tryz.ntmps24
    go_wp2_with (go_at_call 50; refine (cr _).mono ?_; rintro e w2 ⟨rfl, HB2⟩)
    go_ret
    exact ⟨by rw [HS.out]; rfl, belowT (belowA (Below.refl _ _) _) HB2⟩
  | true =>
    go_enter Tryz.func24, Tryz.ntmps24
    go_wp2_with (first | (go_at_call 50; refine (cr _).mono ?_; rintro e w2 ⟨rfl, HB2⟩; have hc0 : w2.cell? ⟨w.heap.size, 0, none⟩ = some (.string lo) := cellNew HB2 0 rfl; have hc1 : w2.cell? ⟨w.heap.size, 1, none⟩ = some (.string d) := cellNew HB2 1 rfl) | (go_at_call 70; refine (ct _).mono ?_; rintro e w3 ⟨rfl, HB3⟩))
    go_ret
    exact ⟨by rw [HS.out]; rfl, belowT (belowT (belowA (Below.refl _ _) _) HB2) HB3⟩
end Go.Proofs.YtkmikhinkbbnnaaGreatDoor.M
