/- Plain laws: a printed address is read again. -/
import Derived.Test.YtkmikhinkbbnnaaGreatDoorManBG
import Derived.Test.YtkmikhinkbbnnaaGreatDoorSpecD
namespace Go.Proofs.YtkmikhinkbbnnaaGreatDoor.M
open Go.RowKit Go.Proofs.YtkmikhinkbbnnaaGreatDoor.Sp

theorem takeWhile_stop {α : Type} (p : α → Bool) : ∀ (l : List α) (c : α) (r : List α), l.all p = true → p c = false → (l ++ c :: r).takeWhile p = l ∧ (l ++ c :: r).dropWhile p = c :: r
  | [], c, r, _, h => by simp [h]
  | a :: l, c, r, ha, h => by
    rw [List.all_cons, Bool.and_eq_true] at ha
    obtain ⟨h1, h2⟩ := takeWhile_stop p l c r ha.2 h
    rw [List.cons_append, List.takeWhile_cons, List.dropWhile_cons, ha.1]
    simp only [if_true]
    exact ⟨by rw [h1], h2⟩

/- What is known of the bytes. -/
theorem atom_word {c : UInt8} (h : atomB c = true) : wordC c = true := by unfold wordC; rw [h]; rfl
theorem atom_facts (c : UInt8) : (!atomB c || (visibleB c && c != 34 && c != 64 && c != 62 && c != 60 && c != 32)) = true := all256 (p := fun c => !atomB c || (visibleB c && c != 34 && c != 64 && c != 62 && c != 60 && c != 32)) (by decide +kernel) c
theorem atom_ne {c : UInt8} (h : atomB c = true) : visibleB c = true ∧ c ≠ 34 ∧ c ≠ 64 ∧ c ≠ 62 ∧ c ≠ 60 ∧ c ≠ 32 := by
  have := atom_facts c
  rw [h] at this
  simp only [Bool.not_true, Bool.false_or, Bool.and_eq_true, bne_iff_ne] at this
  obtain ⟨⟨⟨⟨⟨h1, h2⟩, h3⟩, h4⟩, h5⟩, h6⟩ := this
  exact ⟨h1, h2, h3, h4, h5, h6⟩
theorem dom_visible {c : UInt8} (h : domC c = true) : visibleB c = true := by
  have := all256 (p := fun c => !domC c || visibleB c) (by decide +kernel) c
  rw [h] at this
  exact this
theorem labelC_dom {c : UInt8} (h : labelC c = true) : domC c = true := by
  have := all256 (p := fun c => !labelC c || domC c) (by decide +kernel) c
  rw [h] at this
  exact this
theorem digit_dom {c : UInt8} (h : digitB c = true) : domC c = true := by
  have := all256 (p := fun c => !digitB c || domC c) (by decide +kernel) c
  rw [h] at this
  exact this
theorem split_all (p : UInt8 → Bool) (hd : p 46 = true) : ∀ l : List UInt8, (splitOn 46 l).all (fun x => x.all p) = true → l.all p = true
  | [], _ => rfl
  | b :: r, h => by
    unfold splitOn at h
    by_cases hb : b = 46
    · rw [if_pos hb, List.all_cons, Bool.and_eq_true] at h
      rw [List.all_cons, hb, hd, split_all p hd r h.2]; rfl
    · rw [if_neg hb] at h
      have ih := split_all p hd r
      cases hs : splitOn 46 r with
      | nil => exact absurd hs (splitOn_ne 46 r)
      | cons x t =>
        rw [hs] at h ih
        simp only [List.all_cons, Bool.and_eq_true] at h ih ⊢
        exact ⟨h.1.1, ih ⟨h.1.2, h.2⟩⟩
theorem shaped_dom {d : List UInt8} (h : shapedB d = true) : d.all domC = true := by
  unfold shapedB at h
  split at h
  · rename_i hb
    obtain ⟨h1, h2, h3⟩ := hb
    rw [Bool.and_eq_true] at h
    have hm : (d.drop 1).dropLast.all domC = true := split_all domC (by decide +kernel) _ (List.all_eq_true.2 fun x hx => by
      have hn := List.all_eq_true.1 h.2 x hx
      rw [number_eq] at hn
      exact List.all_eq_true.2 fun c hc => digit_dom (List.all_eq_true.1 (number_form hn).1 c hc))
    cases d with
    | nil => simp at h1
    | cons a r =>
      simp only [List.head?_cons, Option.some.injEq] at h2
      simp only [List.drop_succ_cons, List.drop_zero] at hm
      have hr : r ≠ [] := by intro e; rw [e] at h1; simp at h1
      have hl : r = r.dropLast ++ [93] := by
        rw [List.getLast?_cons] at h3
        have hg : r.getLast? = some 93 := by
          cases hgl : r.getLast? with
          | none => exact absurd (List.getLast?_eq_none_iff.1 hgl) hr
          | some x => rw [hgl] at h3; simpa using h3
        rw [List.getLast?_eq_some_iff] at hg
        obtain ⟨ys, rfl⟩ := hg
        simp
      rw [hl, List.all_cons, List.all_append, hm, h2]
      decide +kernel
  · exact split_all domC (by decide +kernel) _ (List.all_eq_true.2 fun x hx => by
      have hn := List.all_eq_true.1 h x hx
      unfold labelB at hn
      simp only [Bool.and_eq_true] at hn
      exact List.all_eq_true.2 fun c hc => labelC_dom (List.all_eq_true.1 hn.2 c hc))

theorem quoteGo_back : ∀ (lo acc r : List UInt8), lo.all visibleB = true → (acc ++ lo ≠ []) → quoteGo acc (quoteL lo ++ 34 :: r) = some (acc ++ lo, r)
  | [], acc, r, _, h => by
    rw [List.append_nil] at h ⊢
    show quoteGo acc (34 :: r) = _
    rw [quoteGo_quote acc r 34 rfl, if_neg h]
  | c :: lo, acc, r, hv, h => by
    rw [List.all_cons, Bool.and_eq_true] at hv
    have ih := quoteGo_back lo (acc ++ [c]) r hv.2 (by simp)
    rw [List.append_assoc] at ih
    by_cases hc : c = 34 ∨ c = 92
    · have e : quoteL (c :: lo) = 92 :: c :: quoteL lo := by simp [quoteL, hc]
      rw [e, List.cons_append, List.cons_append, quoteGo_stroke _ _ 92 c rfl, hv.1, if_pos rfl]
      exact ih
    · have e : quoteL (c :: lo) = c :: quoteL lo := by simp [quoteL, hc]
      rw [e, List.cons_append, quoteGo_other _ _ c (fun h => hc (.inl h)) (fun h => hc (.inr h)), hv.1, if_pos rfl]
      exact ih

theorem plain_all {l : List UInt8} (h : plainB l = true) : l.all wordC = true ∧ l ≠ [] ∧ (∀ c r, l = c :: r → atomB c = true) := by
  have hw := h
  rw [plain_words] at hw
  refine ⟨split_all wordC (by decide +kernel) _ (List.all_eq_true.2 fun x hx => ?_), fun e => ?_, fun c r e => ?_⟩
  · have := List.all_eq_true.1 h x hx
    unfold wordB at this
    rw [Bool.and_eq_true] at this
    exact List.all_eq_true.2 fun c hc => atom_word (List.all_eq_true.1 this.2 c hc)
  · rw [e] at hw; simp [words] at hw
  · rw [e] at hw
    unfold words at hw
    split at hw
    · simp at hw
    · rw [Bool.and_eq_true] at hw; exact hw.1

/-- The parts of an address that may be, and is not the null one. -/
structure Parts (lo d : List UInt8) : Prop where
  vis : lo.all visibleB = true
  ne : lo ≠ []
  dom : d.all domC = true
  shaped : shapedB d = true
  right : rightB lo d = true
  nn : nullB lo d = false
theorem parts_of {lo d : List UInt8} (h : rightB lo d = true) (hn : nullB lo d = false) : Parts lo d := by
  have h' := h
  unfold rightB at h
  rw [hn, Bool.false_or, Bool.and_eq_true, Bool.and_eq_true] at h
  obtain ⟨⟨h1, h2⟩, _⟩ := h
  unfold localB at h1
  rw [Bool.and_eq_true, Bool.and_eq_true] at h1
  unfold domainB at h2
  rw [Bool.and_eq_true, Bool.and_eq_true] at h2
  exact ⟨h1.2, fun e => by rw [e] at h1; simp at h1, shaped_dom h2.1.2, h2.1.2, h', hn⟩

theorem coreO_back {lo d : List UInt8} (P : Parts lo d) (more : List UInt8) :
    coreO ((if plainB lo then lo else [34] ++ quoteL lo ++ [34]) ++ [64] ++ d ++ [62] ++ more) = some (lo, d, more) := by
  have hd := takeWhile_stop domC d 62 more P.dom (by decide +kernel)
  have tail : ∀ l r2, routeO l = some l → localO l = some (lo, r2) → r2 = 64 :: (d ++ 62 :: more) → coreO l = some (lo, d, more) := fun l r2 h1 h2 h3 => by
    unfold coreO
    rw [h1]
    simp only [h2, h3, if_true]
    rw [hd.1, P.shaped, if_pos rfl, hd.2]
    simp
  cases hp : plainB lo with
  | true =>
    obtain ⟨w1, w2, w3⟩ := plain_all hp
    have e : (if true = true then lo else [34] ++ quoteL lo ++ [34]) ++ [64] ++ d ++ [62] ++ more = lo ++ 64 :: (d ++ 62 :: more) := by simp
    rw [e]
    obtain ⟨c, r, hlo⟩ : ∃ c r, lo = c :: r := by cases lo with | nil => exact absurd rfl w2 | cons c r => exact ⟨c, r, rfl⟩
    obtain ⟨a1, a2, a3, _⟩ := atom_ne (w3 c r hlo)
    have ht := takeWhile_stop wordC lo 64 (d ++ 62 :: more) w1 (by decide +kernel)
    refine tail _ _ ?_ ?_ rfl
    · unfold routeO
      rw [if_neg (by rw [hlo]; simp [a3])]
    · unfold localO
      rw [if_neg (by rw [hlo]; simp [a2]), ht.1, ht.2, hp, if_pos rfl]
  | false =>
    have e : (if false = true then lo else [34] ++ quoteL lo ++ [34]) ++ [64] ++ d ++ [62] ++ more = 34 :: (quoteL lo ++ 34 :: (64 :: (d ++ 62 :: more))) := by simp
    rw [e]
    refine tail _ _ ?_ ?_ rfl
    · unfold routeO
      rw [if_neg (by simp)]
    · unfold localO
      rw [if_pos (show (34 :: (quoteL lo ++ 34 :: (64 :: (d ++ 62 :: more)))).head? = some 34 from rfl)]
      have := quoteGo_back lo [] (64 :: (d ++ 62 :: more)) P.vis (by simpa using P.ne)
      simpa using this

theorem pathL_back {lo d : List UInt8} (P : Parts lo d) (more : List UInt8) : pathL (toldL lo d ++ more) = (lo, d, more, 0) := by
  have e : toldL lo d ++ more = 60 :: ((if plainB lo then lo else [34] ++ quoteL lo ++ [34]) ++ [64] ++ d ++ [62] ++ more) := by simp [toldL]
  have hc := coreO_back P more
  have hh : ∃ c q, ((if plainB lo then lo else [34] ++ quoteL lo ++ [34]) ++ [64] ++ d ++ [62] ++ more) = c :: q ∧ c ≠ 62 := by
    cases hp : plainB lo with
    | true =>
      obtain ⟨_, w2, w3⟩ := plain_all hp
      cases lo with
      | nil => exact absurd rfl w2
      | cons c r => exact ⟨c, _, rfl, (atom_ne (w3 c r rfl)).2.2.2.1⟩
    | false => exact ⟨34, _, rfl, by decide⟩
  obtain ⟨c, q, h1, h2⟩ := hh
  rw [e]
  unfold pathL
  rw [show pathO (60 :: ((if plainB lo then lo else [34] ++ quoteL lo ++ [34]) ++ [64] ++ d ++ [62] ++ more)) = some (lo, d, more) from by
    rw [← hc]
    rw [h1]
    unfold pathO
    simp only [if_true, if_neg h2]]
  simp only [P.right, if_true]
theorem pathL_null (more : List UInt8) : pathL (60 :: 62 :: more) = ([], [], more, 0) := rfl
theorem path_print {lo d : List UInt8} (h : rightB lo d = true) (more : List UInt8) : pathL (printL lo d ++ more) = (lo, d, more, 0) := by
  cases hn : nullB lo d with
  | true =>
    have hn' := hn
    simp only [nullB, Bool.and_eq_true, List.isEmpty_iff] at hn'
    obtain ⟨rfl, rfl⟩ := hn'
    exact pathL_null more
  | false =>
    have e : printL lo d = toldL lo d := by unfold printL; rw [hn, h]; rfl
    rw [e]; exact pathL_back (parts_of h hn) more
theorem print_form {lo d : List UInt8} (h : rightB lo d = true) : ∃ q, printL lo d = 60 :: (q ++ [62]) ∧ (60 :: (q ++ [62])).all visibleB = true := by
  cases hn : nullB lo d with
  | true => exact ⟨[], by unfold printL; rw [hn]; rfl, by decide +kernel⟩
  | false =>
    have P := parts_of h hn
    have e : printL lo d = toldL lo d := by unfold printL; rw [hn, h]; rfl
    refine ⟨(if plainB lo then lo else [34] ++ quoteL lo ++ [34]) ++ [64] ++ d, by rw [e]; simp [toldL], ?_⟩
    have hq : (quoteL lo).all visibleB = true := by
      rw [quoteL, List.all_flatMap]
      refine List.all_eq_true.2 fun c hc => ?_
      have hv := List.all_eq_true.1 P.vis c hc
      split
      · rw [List.all_cons, List.all_cons, hv]; decide +kernel
      · rw [List.all_cons, hv]; rfl
    have hdv : d.all visibleB = true := List.all_eq_true.2 fun c hc => dom_visible (List.all_eq_true.1 P.dom c hc)
    cases plainB lo <;> simp [P.vis, hq, hdv] <;> decide +kernel
end Go.Proofs.YtkmikhinkbbnnaaGreatDoor.M
