/- Package addr: the scanner's steps from whatever state; what they come to together. -/
import Derived.Test.YtkmikhinkbbnnaaGreatDoorManAF
namespace Go.Proofs.YtkmikhinkbbnnaaGreatDoor.M
open Go.RowKit Go.Proofs.YtkmikhinkbbnnaaGreatDoor.Sp

def RouteP (s : ByteArray) (i : Nat) (b : Bool) (j : Nat) (b' : Bool) : Prop :=
  (b' = true ∧ (b = true ∨ routeO (s.data.toList.drop i) = none)) ∨ (b' = false ∧ b = false ∧ ∃ q, routeO (s.data.toList.drop i) = some q ∧ j = s.size - q.length)
def LocalP (s : ByteArray) (i : Nat) (b : Bool) (t : ByteArray) (j : Nat) (b' : Bool) : Prop :=
  (b' = true ∧ (b = true ∨ localO (s.data.toList.drop i) = none)) ∨ (b' = false ∧ b = false ∧ ∃ lo r, localO (s.data.toList.drop i) = some (lo, r) ∧ t = ⟨lo.toArray⟩ ∧ j = s.size - r.length)
def DomP (s : ByteArray) (i : Nat) (b : Bool) (t : ByteArray) (j : Nat) (b' : Bool) : Prop :=
  (b' = true ∧ (b = true ∨ shapedB ((s.data.toList.drop i).take (domN (s.data.toList.drop i))) = false)) ∨
  (b' = false ∧ b = false ∧ shapedB ((s.data.toList.drop i).take (domN (s.data.toList.drop i))) = true ∧ t = s.extract i (i + domN (s.data.toList.drop i)) ∧ j = i + domN (s.data.toList.drop i))
def WantP (s : ByteArray) (c : UInt8) (i : Nat) (b : Bool) (j : Nat) (b' : Bool) : Prop :=
  (b' = true ∧ (b = true ∨ nextB s i false ≠ c)) ∨ (b' = false ∧ b = false ∧ nextB s i false = c ∧ j = i + 1)

section
variable (s : ByteArray) (g i : Nat) (b : Bool) (w : World) (h : Sc w g s i b) (hs : s.size ≤ 4000000000) (hi : i ≤ s.size)
include h hs hi
theorem want_gen (n : Int) (c : UInt8) (hc : c ≠ 0) (en : (c.toNat : Int) = n) :
    Calls Tryz.prog 142 #[.pointer (some ⟨g, 0, none⟩), .int .u8 n] w fun e w' => e = .returned (.tuple #[]) ∧ But g w w' ∧ ∃ j b', j ≤ s.size ∧ Sc w' g s j b' ∧ WantP s c i b j b' := by
  by_cases hn : nextB s i b = c
  · obtain ⟨hlt, rfl⟩ := nextB_lt hc hn
    exact (want_yesL n s g i false c w h (by omega) hc hn en).mono fun _ _ ⟨h1, h2, h3⟩ => ⟨h1, h2, i + 1, false, hlt, h3, .inr ⟨rfl, rfl, hn, rfl⟩⟩
  · refine (want_noL n s g i b c w h (by omega) hi hn en).mono fun _ _ ⟨h1, h2, h3⟩ => ⟨h1, h2, i, true, hi, h3, .inl ⟨rfl, ?_⟩⟩
    cases b with
    | true => exact .inl rfl
    | false => exact .inr hn
theorem route_gen (hG : GB g w) :
    Calls Tryz.prog 144 #[.pointer (some ⟨g, 0, none⟩)] w fun e w' => e = .returned (.tuple #[]) ∧ But g w w' ∧ ∃ j b', j ≤ s.size ∧ Sc w' g s j b' ∧ RouteP s i b j b' := by
  cases b with
  | true => exact (sroute_bad s g i w h hs hi).mono fun _ _ ⟨h1, h2, h3⟩ => ⟨h1, h2, i, true, hi, h3, .inl ⟨rfl, .inl rfl⟩⟩
  | false =>
    refine (sroute_ok s g i w h hs hi hG).mono fun _ _ ⟨h1, h2, h3⟩ => ⟨h1, h2, ?_⟩
    cases hr : routeO (s.data.toList.drop i) with
    | none =>
      rw [hr] at h3
      obtain ⟨j, hj, h4⟩ := h3
      exact ⟨j, true, hj, h4, .inl ⟨rfl, .inr hr⟩⟩
    | some q =>
      rw [hr] at h3
      exact ⟨s.size - q.length, false, by omega, h3, .inr ⟨rfl, rfl, q, hr, rfl⟩⟩
theorem local_gen (hG : GB g w) :
    Calls Tryz.prog 145 #[.pointer (some ⟨g, 0, none⟩)] w fun e w' => But g w w' ∧ ∃ t j b', e = .returned (.string t) ∧ j ≤ s.size ∧ Sc w' g s j b' ∧ LocalP s i b t j b' := by
  cases b with
  | true => exact (slocal_bad s g i w h hs hi hG).mono fun _ _ ⟨h1, h2, h3⟩ => ⟨h2, _, i, true, h1, hi, h3, .inl ⟨rfl, .inl rfl⟩⟩
  | false =>
    refine (slocal_ok s g i w h hs hi hG).mono fun _ _ ⟨h2, h3⟩ => ⟨h2, ?_⟩
    cases hr : localO (s.data.toList.drop i) with
    | none =>
      rw [hr] at h3
      obtain ⟨⟨t, h1⟩, j, hj, h4⟩ := h3
      exact ⟨t, j, true, h1, hj, h4, .inl ⟨rfl, .inr hr⟩⟩
    | some p =>
      obtain ⟨lo, r⟩ := p
      rw [hr] at h3
      exact ⟨_, s.size - r.length, false, h3.1, by omega, h3.2, .inr ⟨rfl, rfl, lo, r, hr, rfl, rfl⟩⟩
theorem domain_gen (hG : GB g w) :
    Calls Tryz.prog 146 #[.pointer (some ⟨g, 0, none⟩)] w fun e w' => But g w w' ∧ ∃ t j b', e = .returned (.string t) ∧ j ≤ s.size ∧ Sc w' g s j b' ∧ DomP s i b t j b' := by
  cases b with
  | true => exact (sdomain_bad s g i w h hs hi hG).mono fun _ _ ⟨h1, h2, h3⟩ => ⟨h2, _, i, true, h1, hi, h3, .inl ⟨rfl, .inl rfl⟩⟩
  | false =>
    have hn : i + domN (s.data.toList.drop i) ≤ s.size := by
      have := domN_le (s.data.toList.drop i)
      rw [List.length_drop, len_eq] at this; omega
    refine (sdomain_ok s g i w h hs hi hG).mono fun _ _ ⟨h1, h2, h3⟩ => ⟨h2, _, _, _, h1, hn, h3, ?_⟩
    cases hsh : shapedB ((s.data.toList.drop i).take (domN (s.data.toList.drop i))) with
    | true => exact .inr ⟨rfl, rfl, hsh, rfl, rfl⟩
    | false => exact .inl ⟨rfl, .inr hsh⟩
end

theorem suffix_drop {q l : List UInt8} (h : q <:+ l) : l.drop (l.length - q.length) = q := by
  obtain ⟨p, rfl⟩ := h
  rw [List.length_append, Nat.add_sub_cancel, List.drop_left]
theorem routeF_suffix : ∀ (n : Nat) (l q : List UInt8), routeF n l = some q → q <:+ l
  | 0, _, _, h => by cases h
  | n + 1, l, q, h => by
    unfold routeF at h
    cases l with
    | nil => cases h
    | cons c r =>
      by_cases hc : c = 64
      · simp only [if_pos hc] at h
        split at h
        · have hd : r.dropWhile domC <:+ c :: r := (List.dropWhile_suffix domC).trans (List.suffix_cons c r)
          split at h
          · cases h
          · rename_i d p he
            rw [he] at hd
            have hp : p <:+ c :: r := (List.suffix_cons d p).trans hd
            split at h
            · injection h with h; subst h; exact hp
            · split at h
              · exact (routeF_suffix n p q h).trans hp
              · cases h
        · cases h
      · simp only [if_neg hc] at h; cases h
theorem routeO_suffix {l q : List UInt8} (h : routeO l = some q) : q <:+ l := by
  unfold routeO at h
  split at h
  · exact routeF_suffix _ _ _ h
  · injection h with h; subst h; exact List.suffix_refl _
theorem quoteGo_suffix : ∀ (n : Nat) (acc l lo r : List UInt8), l.length ≤ n → quoteGo acc l = some (lo, r) → r <:+ l ∧ lo.length + r.length ≤ acc.length + l.length
  | _, acc, [], lo, r, _, h => by rw [quoteGo_end] at h; cases h
  | 0, _, c :: q, _, _, hn, _ => by simp at hn
  | n + 1, acc, c :: q, lo, r, hn, h => by
    simp only [List.length_cons] at hn
    by_cases h34 : c = 34
    · rw [quoteGo_quote _ _ _ h34] at h
      split at h
      · cases h
      · injection h with h; injection h with h1 h2; subst h1; subst h2
        exact ⟨List.suffix_cons _ _, by simp⟩
    · by_cases h92 : c = 92
      · cases q with
        | nil => rw [quoteGo_stroke_end _ _ h92] at h; cases h
        | cons d q2 =>
          rw [quoteGo_stroke _ _ _ _ h92] at h
          simp only [List.length_cons] at hn
          split at h
          · obtain ⟨h1, h2⟩ := quoteGo_suffix n _ _ _ _ (by omega) h
            refine ⟨h1.trans ((List.suffix_cons d q2).trans (List.suffix_cons c (d :: q2))), ?_⟩
            simp only [List.length_append, List.length_cons, List.length_nil] at h2 ⊢; omega
          · cases h
      · rw [quoteGo_other _ _ _ h34 h92] at h
        split at h
        · obtain ⟨h1, h2⟩ := quoteGo_suffix n _ _ _ _ (by omega) h
          refine ⟨h1.trans (List.suffix_cons c q), ?_⟩
          simp only [List.length_append, List.length_cons, List.length_nil] at h2 ⊢; omega
        · cases h
theorem localO_suffix {l lo r : List UInt8} (h : localO l = some (lo, r)) : r <:+ l ∧ lo.length ≤ l.length := by
  unfold localO at h
  split at h
  · obtain ⟨h1, h2⟩ := quoteGo_suffix _ _ _ _ _ (Nat.le_refl _) h
    refine ⟨h1.trans (List.drop_suffix 1 l), ?_⟩
    simp only [List.length_nil, List.length_drop] at h2; omega
  · split at h
    · injection h with h; injection h with h1 h2; subst h1; subst h2
      exact ⟨List.dropWhile_suffix _, (List.takeWhile_sublist _).length_le⟩
    · cases h

theorem drop_at {s : ByteArray} {i : Nat} {q : List UInt8} (hi : i ≤ s.size) (h : q <:+ s.data.toList.drop i) : s.data.toList.drop (s.size - q.length) = q := by
  have := suffix_drop (h.trans (List.drop_suffix i _))
  rwa [len_eq] at this

theorem next_case (s : ByteArray) (i : Nat) : (s.data.toList.drop i = [] ∧ nextB s i false = 0) ∨ ∃ c r, s.data.toList.drop i = c :: r ∧ nextB s i false = c ∧ s.data.toList.drop (i + 1) = r := by
  unfold nextB
  cases h : s.data.toList.drop i with
  | nil => exact .inl ⟨rfl, rfl⟩
  | cons c r => exact .inr ⟨c, r, rfl, rfl, by rw [← List.drop_drop, h]; rfl⟩

def tailO (lo : List UInt8) : List UInt8 → Option (List UInt8 × List UInt8 × List UInt8)
  | [] => none
  | c :: r3 => if c = 64 then
      if shapedB (r3.takeWhile domC) then match r3.dropWhile domC with
        | [] => none
        | e :: r5 => if e = 62 then some (lo, r3.takeWhile domC, r5) else none
      else none
    else none
theorem coreO_tail {l q lo r : List UInt8} (h1 : routeO l = some q) (h2 : localO q = some (lo, r)) : coreO l = tailO lo r := by
  unfold coreO tailO
  rw [h1]
  simp only [h2]
  cases r <;> rfl
theorem tailO_nil (lo : List UInt8) : tailO lo [] = none := rfl
theorem tailO_not {lo r : List UInt8} {c : UInt8} (h : c ≠ 64) : tailO lo (c :: r) = none := by unfold tailO; simp only [if_neg h]
theorem tailO_bad {lo r : List UInt8} (h : shapedB (r.takeWhile domC) = false) : tailO lo (64 :: r) = none := by
  unfold tailO; simp only [if_true, h, Bool.false_eq_true, if_false]
theorem tailO_end {lo r : List UInt8} (h : r.dropWhile domC = []) : tailO lo (64 :: r) = none := by
  unfold tailO; simp only [if_true, h]; split <;> rfl
theorem tailO_no {lo r p : List UInt8} {e : UInt8} (h : r.dropWhile domC = e :: p) (he : e ≠ 62) : tailO lo (64 :: r) = none := by
  unfold tailO; simp only [if_true, h, if_neg he]; split <;> rfl
theorem tailO_yes {lo r p : List UInt8} (hs : shapedB (r.takeWhile domC) = true) (h : r.dropWhile domC = 62 :: p) : tailO lo (64 :: r) = some (lo, r.takeWhile domC, p) := by
  unfold tailO; simp only [if_true, h, hs]

/-- The steps behind '<' together: what the list says. -/
theorem core_steps {s : ByteArray} {i j1 j2 j3 j4 j5 : Nat} {b b1 b2 b3 b4 b5 : Bool} {t u : ByteArray} (hi : i ≤ s.size) (hj2 : j2 ≤ s.size)
    (h1 : RouteP s i b j1 b1) (h2 : LocalP s j1 b1 t j2 b2) (h3 : WantP s 64 j2 b2 j3 b3) (h4 : DomP s j3 b3 u j4 b4) (h5 : WantP s 62 j4 b4 j5 b5) (hj1 : j1 ≤ s.size) :
    (b5 = true ∧ (b = true ∨ coreO (s.data.toList.drop i) = none)) ∨ (b5 = false ∧ b = false ∧ coreO (s.data.toList.drop i) = some (t.data.toList, u.data.toList, s.data.toList.drop j5) ∧ t.size ≤ s.size ∧ u.size ≤ s.size) := by
  rcases h1 with ⟨rfl, h1⟩ | ⟨rfl, rfl, q, hq, rfl⟩
  · have e2 : b2 = true := h2.elim (·.1) (fun x => absurd x.2.1 (by decide))
    subst e2
    have e3 : b3 = true := h3.elim (·.1) (fun x => absurd x.2.1 (by decide))
    subst e3
    have e4 : b4 = true := h4.elim (·.1) (fun x => absurd x.2.1 (by decide))
    subst e4
    have e5 : b5 = true := h5.elim (·.1) (fun x => absurd x.2.1 (by decide))
    refine .inl ⟨e5, h1.imp_right (fun h => ?_)⟩
    unfold coreO; rw [h]
  · have d1 := drop_at hi (routeO_suffix hq)
    rcases h2 with ⟨rfl, h2⟩ | ⟨rfl, _, lo, r, hl, rfl, rfl⟩
    · have e3 : b3 = true := h3.elim (·.1) (fun x => absurd x.2.1 (by decide))
      subst e3
      have e4 : b4 = true := h4.elim (·.1) (fun x => absurd x.2.1 (by decide))
      subst e4
      have e5 : b5 = true := h5.elim (·.1) (fun x => absurd x.2.1 (by decide))
      refine .inl ⟨e5, .inr ?_⟩
      unfold coreO
      simp only [hq]
      rw [d1] at h2
      rcases h2 with h2 | h2
      · cases h2
      · rw [h2]
    · rw [d1] at hl
      have d2 := drop_at hj1 (d1.symm ▸ (localO_suffix hl).1)
      have hlo : lo.length ≤ s.size := by
        have h6 := (localO_suffix hl).2
        have h7 := (routeO_suffix hq).length_le
        rw [List.length_drop, len_eq] at h7; omega
      have hc : coreO (s.data.toList.drop i) = tailO lo r := coreO_tail hq hl
      rcases h3 with ⟨rfl, h3⟩ | ⟨rfl, _, hn, rfl⟩
      · have e4 : b4 = true := h4.elim (·.1) (fun x => absurd x.2.1 (by decide))
        subst e4
        have e5 : b5 = true := h5.elim (·.1) (fun x => absurd x.2.1 (by decide))
        refine .inl ⟨e5, .inr ?_⟩
        rw [hc]
        rcases h3 with h3 | h3
        · cases h3
        · rcases next_case s (s.size - r.length) with ⟨ha, _⟩ | ⟨c, p, ha, hb, _⟩
          · rw [d2] at ha; rw [ha]; exact tailO_nil lo
          · rw [d2] at ha; rw [ha]; rw [hb] at h3; exact tailO_not h3
      · rcases next_case s (s.size - r.length) with ⟨_, hb⟩ | ⟨c, p, ha, hb, hp⟩
        · rw [hb] at hn; exact absurd hn (by decide)
        · rw [d2] at ha
          subst ha
          rw [hb] at hn
          subst hn
          obtain ⟨w1, w2⟩ := domN_take p
          unfold DomP at h4
          rw [hp, w1] at h4
          rcases h4 with ⟨rfl, h4⟩ | ⟨rfl, _, hsh, rfl, rfl⟩
          · have e5 : b5 = true := h5.elim (·.1) (fun x => absurd x.2.1 (by decide))
            refine .inl ⟨e5, .inr ?_⟩
            rcases h4 with h4 | h4
            · cases h4
            · rw [hc]; exact tailO_bad h4
          · have d3 : s.data.toList.drop (s.size - (64 :: p).length + 1 + domN p) = p.dropWhile domC := by
              rw [← List.drop_drop, hp, w2]
            rcases h5 with ⟨rfl, h5⟩ | ⟨rfl, _, hn, rfl⟩
            · refine .inl ⟨rfl, .inr ?_⟩
              rw [hc]
              rcases h5 with h5 | h5
              · cases h5
              · rcases next_case s (s.size - (64 :: p).length + 1 + domN p) with ⟨ha, _⟩ | ⟨e, p5, ha, hb5, _⟩
                · rw [d3] at ha; exact tailO_end ha
                · rw [d3] at ha; rw [hb5] at h5; exact tailO_no ha h5
            · rcases next_case s (s.size - (64 :: p).length + 1 + domN p) with ⟨_, hb5⟩ | ⟨e, p5, ha, hb5, hp5⟩
              · rw [hb5] at hn; exact absurd hn (by decide)
              · rw [d3] at ha
                rw [hb5] at hn
                subst hn
                refine .inr ⟨rfl, rfl, ?_, ?_, by rw [ByteArray.size_extract]; omega⟩
                · rw [hc, hp5, extract_mid, hp, w1]
                  exact tailO_yes hsh ha
                · show (⟨lo.toArray⟩ : ByteArray).size ≤ s.size
                  rw [← len_eq]; simpa using hlo
end Go.Proofs.YtkmikhinkbbnnaaGreatDoor.M
