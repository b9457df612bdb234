/- Package addr: texts cut at dots; plain words, shapes, domains, by hand. -/
import Derived.Test.YtkmikhinkbbnnaaGreatDoorManE
namespace Go.Proofs.YtkmikhinkbbnnaaGreatDoor.M
open Go.RowKit Go.Proofs.YtkmikhinkbbnnaaGreatDoor.Sp

/-- A text cut at the dots, in new memory. -/
def SplitEnd (s : ByteArray) (w : World) (e : Ending) (w' : World) : Prop :=
  ∃ (b n : Nat) (zs : List ByteArray), e = .returned (.slice (some ⟨b, 0, none⟩) n n) ∧ zs.length = n ∧ n ≤ s.size + 1 ∧ zs.map (·.data.toList) = splitOn 46 s.data.toList ∧
    (∀ (j : Nat) (h : j < zs.length), w'.cell? ⟨b, j, none⟩ = some (.string zs[j])) ∧ Below w.heap.size w w'

theorem split_any (s : ByteArray) (hs : s.size < 4294967281) (w : World) (hGL : GL w) :
    Calls Tryz.prog 88 #[.string s, .string ⟨#[46]⟩] w (SplitEnd s w) := by
  obtain ⟨m, hm⟩ := hGL.mx
  refine (Tryz.strings_Split s ⟨#[46]⟩ m w hs hm (by decide)).mono ?_
  rintro e w' ⟨he, rfl⟩
  have hmap : (Lib.splitB ⟨#[46]⟩ 0 (Lib.countB s ⟨#[46]⟩) s).map (·.data.toList) = splitOn 46 s.data.toList := by
    rw [Lib.splitB_data]; exact split_eq 46 s.data.toList
  have hlen : (Lib.splitB ⟨#[46]⟩ 0 (Lib.countB s ⟨#[46]⟩) s).length = Lib.countB s ⟨#[46]⟩ + 1 := by
    have h1 := congrArg List.length hmap
    rw [List.length_map] at h1
    rw [h1]
    exact (count_eq 46 s.data.toList).symm
  have hle : Lib.countB s ⟨#[46]⟩ + 1 ≤ s.size + 1 := by
    rw [← hlen, ← List.length_map (f := (·.data.toList)), hmap, ← len_eq]
    exact splitOn_le 46 s.data.toList
  refine ⟨w.heap.size, _, Lib.splitB ⟨#[46]⟩ 0 (Lib.countB s ⟨#[46]⟩) s, he, hlen, hle, hmap, fun j h => ?_, belowA (Below.refl _ _) _⟩
  rw [World.cell?_alloc_new]
  simp [List.getElem?_eq_getElem h]

theorem any_map (p : List UInt8 → Bool) (zs : List ByteArray) : (zs.any fun x => p x.data.toList) = (zs.map (·.data.toList)).any p := by rw [List.any_map]; rfl

/-- Each piece is no longer than the text. -/
theorem piece_size {s : ByteArray} {zs : List ByteArray} (h : zs.map (·.data.toList) = splitOn 46 s.data.toList) : ∀ x ∈ zs, x.size ≤ s.size := fun x hx => by
  have : x.data.toList ∈ splitOn 46 s.data.toList := by rw [← h]; exact List.mem_map_of_mem (f := (·.data.toList)) hx
  have := splitOn_len 46 _ _ this
  rwa [len_eq, len_eq] at this

/-- 'slices.ContainsFunc(strings.Split(s, "."), g)'. -/
theorem splitContains (g : Nat) (eg : ∀ args w, (callFunc g args).run Tryz.prog w = .ok (.enter g args) w) (p : List UInt8 → Bool) (s : ByteArray)
    (hp : ∀ x : ByteArray, x.size ≤ s.size → ∀ W : World, GL W → Calls Tryz.prog g #[.string x] W fun e w' => e = .returned (.bool (p x.data.toList)) ∧ Below W.heap.size W w')
    (hs : s.size < 4294967281) (b n : Nat) (zs : List ByteArray) (w : World) (hGL : GL w) (hn : zs.length = n) (hle : n ≤ s.size + 1) (hmap : zs.map (·.data.toList) = splitOn 46 s.data.toList)
    (hc : ∀ (j : Nat) (h : j < zs.length), w.cell? ⟨b, j, none⟩ = some (.string zs[j])) :
    Calls Tryz.prog 87 #[.slice (some ⟨b, 0, none⟩) n n, .func (.func g) #[] #[]] w fun e w' => e = .returned (.bool ((splitOn 46 s.data.toList).any p)) ∧ Below w.heap.size w w' := by
  rw [← hmap, ← any_map]
  exact containsFunc_any g eg p b n n zs w (fun x hx W hb => hp x (piece_size hmap x hx) W (hGL.step hb)) hn (by omega) hc

theorem word_any (x : ByteArray) (hs : x.size ≤ 140737488355328) (w : World) :
    Calls Tryz.prog 163 #[.string x] w fun e w' => e = .returned (.bool (!wordB x.data.toList)) ∧ Below w.heap.size w w' := by
  have hv := every_any 164 atom_enters atomB atom_any x hs
  generalize hR : x.data.toList.all atomB = R at hv
  by_cases h0 : x.data.toList = []
  · obtain rfl := bytes_empty h0
    clear hR hv
    go_enter Tryz.func163, Tryz.ntmps163
    go_wp2
    go_ret
    exact ⟨ret_bool (by simp [wordB]), Below.refl _ _⟩
  · have hE0 : x.data.toList.isEmpty = false := by cases h : x.data.toList with | nil => exact absurd h h0 | cons _ _ => rfl
    have hE : x.toList.isEmpty = false := by rw [Go.ByteArray.toList_eq]; exact hE0
    have fin : Hid (wordB x.data.toList = R) := Lib.hid (by rw [wordB, hR, hE0]; rfl)
    clear hR h0 hE0
    go_enter Tryz.func163, Tryz.ntmps163
    go_wp2_with (go_at_call 124; refine (hv _).mono ?_; rintro e w' ⟨rfl, rfl⟩)
    go_ret
    exact ⟨ret_bool (by rw [fin.out]), Below.refl _ _⟩

theorem word_enters : ∀ args w, (callFunc 163 args).run Tryz.prog w = .ok (.enter 163 args) w := enters_of Tryz.func163 (by kernel_rfl) rfl

theorem not_any {α : Type} (p : α → Bool) (l : List α) : (!l.any fun x => !p x) = l.all p := by simp [List.all_eq_not_any_not]

theorem plain_any (s : ByteArray) (hs : s.size < 4294967281) (w : World) (hGL : GL w) :
    Calls Tryz.prog 126 #[.string s] w fun e w' => e = .returned (.bool (plainB s.data.toList)) ∧ Below w.heap.size w w' := by
  have hsp := split_any s hs w hGL
  have hco := splitContains 163 word_enters (fun l => !wordB l) s (fun x hx W _ => word_any x (by omega) W) hs
  have fin : Hid ((!(splitOn 46 s.data.toList).any fun l => !wordB l) = plainB s.data.toList) := Lib.hid (not_any _ _)
  generalize hR : ((splitOn 46 s.data.toList).any fun l => !wordB l) = R at hco fin
  have HG := Lib.hid hGL
  clear hR hGL
  go_enter Tryz.func126, Tryz.ntmps126
  go_wp2_with (first | (go_at_call 88; refine hsp.mono ?_; rintro e w1 ⟨b, n, zs, rfl, h1, h2, h3, h4, hb1⟩; have H1 := Lib.hid h1; have H3 := Lib.hid h3; have H4 := Lib.hid h4; clear h1 h3 h4) | (go_at_call 87; refine (hco _ _ _ _ (HG.out.step hb1) H1.out h2 H3.out H4.out).mono ?_; rintro e w2 ⟨rfl, hb2⟩))
  go_ret
  exact ⟨ret_bool fin.out, belowT hb1 hb2⟩
end Go.Proofs.YtkmikhinkbbnnaaGreatDoor.M
