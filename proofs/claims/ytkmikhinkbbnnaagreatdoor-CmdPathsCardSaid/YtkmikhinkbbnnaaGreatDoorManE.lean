/- Package addr: ContainsFunc over texts cut at dots; plain words, shapes, domains, by hand. -/
import Derived.Test.YtkmikhinkbbnnaaGreatDoorManD
namespace Go.Proofs.YtkmikhinkbbnnaaGreatDoor.M
open Go.RowKit Go.Proofs.YtkmikhinkbbnnaaGreatDoor.Sp

/-- A function of a text, without captured variables, that tells p of each text of a list, in every later world. -/
def TellsS (g : Nat) (p : List UInt8 → Bool) (zs : List ByteArray) (w : World) : Prop :=
  ∀ x ∈ zs, ∀ W : World, Below w.heap.size w W → Calls Tryz.prog g #[.string x] W fun e w' => e = .returned (.bool (p x.data.toList)) ∧ Below W.heap.size W w'

def FirstS (p : List UInt8 → Bool) (zs : List ByteArray) (w : World) (e : Ending) (w' : World) : Prop :=
  ∃ r : Int, e = .returned (.int .i64 r) ∧ decide (0 ≤ r) = zs.any (fun x => p x.data.toList) ∧ Below w.heap.size w w'

theorem indexFunc_any (g : Nat) (eg : ∀ args w, (callFunc g args).run Tryz.prog w = .ok (.enter g args) w) (p : List UInt8 → Bool) (b n c : Nat) (zs : List ByteArray) (w : World)
    (hp : TellsS g p zs w) (hn : zs.length = n) (hbig : n ≤ 140737488355328) (hc : ∀ (j : Nat) (h : j < zs.length), w.cell? ⟨b, j, none⟩ = some (.string zs[j])) :
    Calls Tryz.prog 131 #[.slice (some ⟨b, 0, none⟩) n c, .func (.func g) #[] #[]] w (FirstS p zs w) := by
  have HP := Lib.hid hp
  have HC := Lib.hid hc
  have HN := Lib.hid hn
  have hn' : n ≤ zs.length ∧ zs.length ≤ n := by omega
  have hn1 := hn'.1
  have hn2 := hn'.2
  clear hp hc hn hn'
  go_enter Tryz.func131, Tryz.ntmps131
  go_wp2
  go_loopw [5, 8] (fun _ i wr => ∃ k : Nat, k ≤ n ∧ i = .int .i64 k ∧ Hid (∀ j (h : j < zs.length), j < k → p zs[j].data.toList = false) ∧ Hid (Below w.heap.size w wr)) (fun _ i _ => n - (intOf i).toNat)
  case atStart => exact ⟨0, Nat.zero_le _, rfl, Lib.hid (fun j _ hj => absurd hj (Nat.not_lt_zero _)), Lib.hid (Below.refl _ _)⟩
  case round =>
    obtain ⟨k, hk, rfl, hall, hB⟩ := hrel
    by_cases hlt : k < n
    · have hkz : k < zs.length := by omega
      have hx : Hid (zs[k] ∈ zs) := Lib.hid (List.getElem_mem hkz)
      have hcall := HP.out zs[k] hx.out
      have hcell : wr.cell? ⟨b, k, none⟩ = some (.string zs[k]) := (hB.out.cell (World.block_lt_of_cell? w _ (HC.out k hkz))).trans (HC.out k hkz)
      have hq : Hid (zs[k] = zs[k]) := Lib.hid rfl
      generalize hy : zs[k] = y at hcell hcall hx
      have HY := Lib.hid hy
      clear hy
      cases hb : p y.data.toList with
      | true =>
        rw [hb] at hcall
        have HB2 := Lib.hid hb
        clear hb
        go_wp2_with (go_at_fn g; refine (hcall _ hB.out).mono ?_; rintro e w1 ⟨rfl, hb1⟩)
        go_ret
        refine ⟨(k : Int), rfl, ?_, belowT hB.out hb1⟩
        rw [decide_eq_true (by omega)]
        symm
        rw [List.any_eq_true]
        exact ⟨y, hx.out, HB2.out⟩
      | false =>
        rw [hb] at hcall
        have HB2 := Lib.hid hb
        clear hb
        go_wp2_with (go_at_fn g; refine (hcall _ hB.out).mono ?_; rintro e w1 ⟨rfl, hb1⟩)
        go_roundw
        case rel =>
          refine ⟨k + 1, by omega, by go_num, Lib.hid (fun j h hj => ?_), Lib.hid (belowT hB.out hb1)⟩
          by_cases e : j = k
          · subst e; rw [HY.out]; exact HB2.out
          · exact hall.out j h (by omega)
        case measure => simp [intOf]; omega
    · go_wp2
      go_ret
      refine ⟨-1, rfl, ?_, hB.out⟩
      rw [decide_eq_false (by omega)]
      symm
      rw [List.any_eq_false]
      intro x hx
      obtain ⟨j, hj, rfl⟩ := List.getElem_of_mem hx
      rw [hall.out j hj (by omega)]
      exact Bool.false_ne_true

theorem containsFunc_any (g : Nat) (eg : ∀ args w, (callFunc g args).run Tryz.prog w = .ok (.enter g args) w) (p : List UInt8 → Bool) (b n c : Nat) (zs : List ByteArray) (w : World)
    (hp : TellsS g p zs w) (hn : zs.length = n) (hbig : n ≤ 140737488355328) (hc : ∀ (j : Nat) (h : j < zs.length), w.cell? ⟨b, j, none⟩ = some (.string zs[j])) :
    Calls Tryz.prog 87 #[.slice (some ⟨b, 0, none⟩) n c, .func (.func g) #[] #[]] w fun e w' => e = .returned (.bool (zs.any fun x => p x.data.toList)) ∧ Below w.heap.size w w' := by
  have hi := indexFunc_any g eg p b n c zs w hp hn hbig hc
  generalize hR : (zs.any fun x => p x.data.toList) = R
  have HR := Lib.hid hR
  clear hR hp hn hc
  go_enter Tryz.func87, Tryz.ntmps87
  go_wp2_with (go_at_call 131; refine hi.mono ?_; rintro e w1 ⟨r, rfl, h1, hb1⟩)
  go_ret
  exact ⟨ret_bool HR.out, hb1⟩
end Go.Proofs.YtkmikhinkbbnnaaGreatDoor.M
