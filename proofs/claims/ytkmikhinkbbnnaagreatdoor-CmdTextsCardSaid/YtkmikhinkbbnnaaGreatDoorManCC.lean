/- The reference's paths (mailbagref14), whole: they are the program's. -/
import Derived.Test.YtkmikhinkbbnnaaGreatDoorManCB
namespace Go.Proofs.YtkmikhinkbbnnaaGreatDoor.M
open Go.RowKit Go.Proofs.YtkmikhinkbbnnaaGreatDoor.Sp

def coreL : Option (List UInt8 × List UInt8 × List UInt8) → List UInt8 × List UInt8 × List UInt8 × Int
  | none => bad3
  | some (lo, d, r) => if rightB lo d then (lo, d, r, 0) else bad5
theorem pathL_eq (l : List UInt8) : pathL l = coreL (pathO l) := by
  unfold pathL coreL
  cases pathO l with
  | none => rfl
  | some v => obtain ⟨lo, d, r⟩ := v; rfl
theorem pathO_core {t : List UInt8} {c : UInt8} {q : List UInt8} (h : t = c :: q) (hc : c ≠ 62) : pathO (60 :: t) = coreO t := by
  subst h; unfold pathO; simp only [if_true, if_neg hc]
theorem pathO_no {c : UInt8} {t : List UInt8} (h : c ≠ 60) : pathO (c :: t) = none := by unfold pathO; simp only [if_neg h]

theorem coreO_route {t : List UInt8} (h : routeO t = none) : coreO t = none := by unfold coreO; rw [h]
theorem coreO_local {t q : List UInt8} (h : routeO t = some q) (h2 : localO q = none) : coreO t = none := by unfold coreO; rw [h]; simp only [h2]
theorem coreO_mid {t q lo r2 : List UInt8} (h : routeO t = some q) (h2 : localO q = some (lo, r2)) : coreO t = (match r2 with
      | [] => none
      | c :: r3 => if c = 64 then
          if shapedB (r3.takeWhile domC) then match r3.dropWhile domC with
            | [] => none
            | e :: r5 => if e = 62 then some (lo, r3.takeWhile domC, r5) else none
          else none
        else none) := by unfold coreO; rw [h]; simp only [h2]; cases r2 <;> rfl

theorem dropx {x : ByteArray} {n : Nat} {c : UInt8} {r : List UInt8} (h : x.data.toList.drop n = c :: r) : ∃ hn : n < x.size, x[n] = c ∧ x.data.toList.drop (n + 1) = r := by
  have hn : n < x.size := by
    rcases Nat.lt_or_ge n x.size with h' | h'
    · exact h'
    · rw [List.drop_of_length_le (by rw [len_eq]; exact h')] at h; cases h
  have := drop_get x n hn
  rw [h] at this
  injection this with h1 h2
  exact ⟨hn, h1.symm, h2.symm⟩
theorem size_of {x : ByteArray} {l : List UInt8} (h : x.data.toList = l) : x.size = l.length := by rw [← h, len_eq]

theorem rpath_tail (s : ByteArray) (hs : s.size ≤ 2000000000) (w : World) (hE : s.toList.isEmpty = false) (hp : 0 < s.size) (q0 : (((s[0].toNat : Int) != 60) : Bool) = false) (i1 : (1 : Int) < (s.size : Int)) (hp1 : 1 < s.size) (q1 : (((s[1].toNat : Int) == 62) : Bool) = false)
    (t : List UInt8) (ht : s.data.toList.drop 1 = t) : Calls Tryz.prog 121 #[.string s] w (PathEnd w (pathV (coreL (coreO t)))) := by
  have he : (s.extract 1 s.size).data.toList = t := (extract_end s 1).trans ht
  have hez : (s.extract 1 s.size).size ≤ 2000000000 := by rw [size_of he, ← ht, List.length_drop, len_eq]; omega
  have htl : t.length = s.size - 1 := by rw [← ht, List.length_drop, len_eq]
  have cr := fun W => rroute_any (s.extract 1 s.size) (by omega) W
  rw [he] at cr
  cases hro : routeO t with
  | none =>
    rw [coreO_route hro]
    have e : routeN t = -1 := by unfold routeN; rw [hro]
    rw [e] at cr
    exact rpath_route s hs hE hp q0 i1 hp1 q1 cr w
  | some q =>
    have hq := routeO_suffix hro
    have hql := hq.length_le
    have e : routeN t = ((t.length - q.length : Nat) : Int) := by unfold routeN; rw [hro]; show (t.length : Int) - (q.length : Int) = _; omega
    rw [e] at cr
    generalize hr : t.length - q.length = r at cr
    have hx : (s.extract (1 + r) s.size).data.toList = q := by rw [extract_end, ← List.drop_drop, ht, ← hr, suffix_drop hq]
    have i2 : (1 : Int) + (r : Int) ≤ (s.size : Int) := by omega
    generalize hxx : s.extract (1 + r) s.size = x at hx
    have hxz := size_of hx
    have cl := fun W => rlocalp_any x (by omega) W
    cases hlo : localO q with
    | none =>
      rw [coreO_local hro hlo]
      refine rpath_local s x r hs hE hp q0 i1 hp1 q1 cr hxx i2 (fun W => (cl W).mono fun e w' h => ?_) w
      unfold LocalEnd at h
      rw [hx, hlo] at h
      exact h
    | some v =>
      obtain ⟨lo, r2⟩ := v
      obtain ⟨h2, h3⟩ := localO_suffix hlo
      have h2l := h2.length_le
      have cl' : ∀ W, Calls Tryz.prog 160 #[.string x] W fun e w' => e = .returned (.tuple #[.string ⟨lo.toArray⟩, .int .i64 ((q.length - r2.length : Nat) : Int)]) ∧ Below W.heap.size W w' := fun W => (cl W).mono fun e w' h => by
        unfold LocalEnd at h
        rw [hx, hlo] at h
        refine ⟨h.1.trans ?_, h.2⟩
        rw [show (x.size : Int) - (r2.length : Int) = ((q.length - r2.length : Nat) : Int) by omega]
      have hd2 := suffix_drop h2
      generalize hn : q.length - r2.length = n at cl' hd2
      rw [coreO_mid hro hlo]
      cases r2 with
      | nil => exact rpath_end1 s x ⟨lo.toArray⟩ r n hs hE hp q0 i1 hp1 q1 cr hxx i2 cl' (by simp at hn; omega) w
      | cons c r3 =>
        rw [← hx] at hd2
        obtain ⟨hnx, hc, hd3⟩ := dropx hd2
        have i3 : ¬ (x.size : Int) ≤ (n : Int) := by omega
        by_cases h64 : c = 64
        · have q2 : (((x[n].toNat : Int) != 64) : Bool) = false := u8_lit' x[n] 64 (hc.trans h64)
          have i4 : (n : Int) + 1 ≤ (x.size : Int) := by omega
          have hy : (x.extract (n + 1) x.size).data.toList = r3 := (extract_end x (n + 1)).trans hd3
          generalize hyy : x.extract (n + 1) x.size = y at hy
          have hyz := size_of hy
          have hyl : y.size ≤ x.size := by rw [← hyy, ByteArray.size_extract]; omega
          have cd := fun W => rdomN_any y (by omega) W
          rw [hy] at cd
          have hdk := domN_le r3
          have htk := domN_take r3
          generalize hk : domN r3 = k at cd hdk htk
          have hd : (y.extract 0 k).data.toList = r3.takeWhile domC := by rw [Lib.extract_from_zero, hy, htk.1]
          have i5 : (k : Int) ≤ (y.size : Int) := by omega
          have hdz : (y.extract 0 k).size ≤ y.size := by rw [ByteArray.size_extract]; omega
          generalize hdd : y.extract 0 k = d at hd hdz
          have cs := fun W => rshaped_any d (by omega) W
          rw [hd] at cs
          simp only [if_pos h64]
          cases hsh : shapedB (r3.takeWhile domC) with
          | false =>
            rw [hsh] at cs
            exact rpath_shape s x y d ⟨lo.toArray⟩ r n k hs hE hp q0 i1 hp1 q1 cr hxx i2 cl' i3 hnx q2 (by omega) hyy i4 cd hdd i5 cs w
          | true =>
            rw [hsh] at cs
            rw [← htk.2]
            simp only [if_true]
            cases he5 : r3.drop k with
            | nil =>
              have : y.size ≤ k := by rw [hyz]; exact List.drop_eq_nil_iff.1 he5
              exact rpath_end2 s x y d ⟨lo.toArray⟩ r n k hs hE hp q0 i1 hp1 q1 cr hxx i2 cl' i3 hnx q2 (by omega) hyy i4 cd hdd i5 cs (by omega) w
            | cons e r5 =>
              rw [← hy] at he5
              obtain ⟨hky, hee, hd5⟩ := dropx he5
              have i6 : ¬ (y.size : Int) ≤ (k : Int) := by omega
              by_cases h62 : e = 62
              · have q3 : (((y[k].toNat : Int) != 62) : Bool) = false := u8_lit' y[k] 62 (hee.trans h62)
                have cR := fun W => rright_any ⟨lo.toArray⟩ d (by rw [size_of (l := lo) (by simp)]; omega) (by omega) W
                have hzz : (y.extract (k + 1) y.size) = ⟨r5.toArray⟩ := bstr ((extract_end y (k + 1)).trans hd5)
                have hdq : d = ⟨(r3.takeWhile domC).toArray⟩ := bstr hd
                simp only [if_pos h62]
                cases hR : rightB lo (r3.takeWhile domC) with
                | false =>
                  have e : coreL (some (lo, r3.takeWhile domC, r5)) = bad5 := by unfold coreL; simp only [hR]; rfl
                  rw [e]
                  exact rpath_long s x y d ⟨lo.toArray⟩ r n k hs hE hp q0 i1 hp1 q1 cr hxx i2 cl' i3 hnx q2 (by omega) hyy i4 cd hdd i5 cs i6 hky q3 (fun W => (cR W).mono fun e w' h => ⟨by rw [h.1, hd]; show Ending.returned (.bool (rightB lo _)) = _; rw [hR], h.2⟩) w
                | true =>
                  have e : coreL (some (lo, r3.takeWhile domC, r5)) = (lo, r3.takeWhile domC, r5, 0) := by unfold coreL; simp only [hR]; rfl
                  rw [e]
                  have := rpath_ok s x y d ⟨r5.toArray⟩ ⟨lo.toArray⟩ r n k hs hE hp q0 i1 hp1 q1 cr hxx i2 cl' i3 hnx q2 (by omega) hyy i4 cd hdd i5 cs i6 hky q3 (fun W => (cR W).mono fun e w' h => ⟨by rw [h.1, hd]; show Ending.returned (.bool (rightB lo _)) = _; rw [hR], h.2⟩) (by omega) hzz (by omega) w
                  rw [hdq] at this
                  exact this
              · have q3 : (((y[k].toNat : Int) != 62) : Bool) = true := u8_nlit' y[k] 62 (fun h => h62 (hee.symm.trans h))
                simp only [if_neg h62]
                exact rpath_no62 s x y d ⟨lo.toArray⟩ r n k hs hE hp q0 i1 hp1 q1 cr hxx i2 cl' i3 hnx q2 (by omega) hyy i4 cd hdd i5 cs i6 hky q3 w
        · have q2 : (((x[n].toNat : Int) != 64) : Bool) = true := u8_nlit' x[n] 64 (fun h => h64 (hc.symm.trans h))
          simp only [if_neg h64]
          exact rpath_no64 s x ⟨lo.toArray⟩ r n hs hE hp q0 i1 hp1 q1 cr hxx i2 cl' i3 hnx q2 w

theorem rpath_any (s : ByteArray) (hs : s.size ≤ 2000000000) (w : World) :
    Calls Tryz.prog 121 #[.string s] w fun e w' => e = .returned (pathV (pathL s.data.toList)) ∧ Below w.heap.size w w' := by
  rw [pathL_eq]
  show Calls _ _ _ w (PathEnd w _)
  by_cases hp : 0 < s.size
  · have hE := isEmpty_false hp
    have h0 := drop_get s 0 hp
    rw [List.drop_zero] at h0
    by_cases h60 : s[0] = 60
    · have q0 : (((s[0].toNat : Int) != 60) : Bool) = false := u8_lit' s[0] 60 h60
      rw [h0, h60]
      by_cases hp1 : 1 < s.size
      · have i1 : (1 : Int) < (s.size : Int) := by omega
        have h1 := drop_get s 1 hp1
        by_cases h62 : s[1] = 62
        · have := rpath_null s hs hE hp q0 i1 hp1 (u8_lit s[1] 62 h62) w
          rw [Nat.zero_add, h1, h62]
          exact this
        · rw [Nat.zero_add, pathO_core h1 h62]
          exact rpath_tail s hs w hE hp q0 i1 hp1 (u8_nlit s[1] 62 h62) _ rfl
      · have hz : s.size = 1 := by omega
        have he : (s.extract 1 s.size).data.toList = [] := by rw [extract_end, List.drop_of_length_le (by rw [len_eq]; omega)]
        have cr := fun W => rroute_any (s.extract 1 s.size) (by rw [size_of he]; simp) W
        have cl := fun W => rlocalp_any (s.extract 1 s.size) (by rw [size_of he]; simp) W
        rw [he] at cr
        have := rpath_one s (s.extract 1 s.size) 0 hs hE hp q0 (by omega) cr rfl (by omega) (fun W => (cl W).mono fun e w' h => by
          unfold LocalEnd at h
          rw [he, show localO [] = none from by decide] at h
          exact h) w
        rw [List.drop_of_length_le (by rw [len_eq]; omega)]
        exact this
    · rw [h0, pathO_no h60]
      exact rpath_no60 s hs hE hp (u8_nlit' s[0] 60 h60) w
  · have hz := size_zero hp
    subst hz
    exact rpath_empty ⟨#[]⟩ hs (by rw [Go.ByteArray.toList_eq]; rfl) w
end Go.Proofs.YtkmikhinkbbnnaaGreatDoor.M
