/- Package cmd: what stands behind MAIL and RCPT, by hand. -/
import Derived.Test.YtkmikhinkbbnnaaGreatDoorManBB
namespace Go.Proofs.YtkmikhinkbbnnaaGreatDoor.M
open Go.RowKit Go.Proofs.YtkmikhinkbbnnaaGreatDoor.Sp
attribute [local go_sem ↓] Go.wp_at_zero Go.wp_at_succ

/-- A command's block. -/
structure Cm (w : World) (g : Nat) (v0 v1 v2 v3 v4 : Value) : Prop where
  c0 : w.cell? ⟨g, 0, none⟩ = some v0
  c1 : w.cell? ⟨g, 1, none⟩ = some v1
  c2 : w.cell? ⟨g, 2, none⟩ = some v2
  c3 : w.cell? ⟨g, 3, none⟩ = some v3
  c4 : w.cell? ⟨g, 4, none⟩ = some v4
  f0 : w.frozen? ⟨g, 0, none⟩ = false
  f1 : w.frozen? ⟨g, 1, none⟩ = false
  f2 : w.frozen? ⟨g, 2, none⟩ = false
  f3 : w.frozen? ⟨g, 3, none⟩ = false
  f4 : w.frozen? ⟨g, 4, none⟩ = false
section
variable {w w' : World} {g : Nat} {v0 v1 v2 v3 v4 : Value}
theorem Cm.lt (h : Cm w g v0 v1 v2 v3 v4) : g < w.heap.size := World.block_lt_of_cell? w _ h.c0
theorem Cm.below (h : Cm w g v0 v1 v2 v3 v4) (hb : Below w.heap.size w w') : Cm w' g v0 v1 v2 v3 v4 :=
  ⟨(hb.cell h.lt).trans h.c0, (hb.cell h.lt).trans h.c1, (hb.cell h.lt).trans h.c2, (hb.cell h.lt).trans h.c3, (hb.cell h.lt).trans h.c4,
   (hb.frozen h.lt).trans h.f0, (hb.frozen h.lt).trans h.f1, (hb.frozen h.lt).trans h.f2, (hb.frozen h.lt).trans h.f3, (hb.frozen h.lt).trans h.f4⟩
theorem Cm.alloc (h : Cm w g v0 v1 v2 v3 v4) (o : Obj) : Cm (w.alloc o) g v0 v1 v2 v3 v4 := h.below (belowA (Below.refl _ _) o)
theorem cm_new {t : TypeId} (hb : Below (w.alloc (.cells #[v0, v1, v2, v3, v4] t)).heap.size (w.alloc (.cells #[v0, v1, v2, v3, v4] t)) w') : Cm w' w.heap.size v0 v1 v2 v3 v4 :=
  have hl : w.heap.size < (w.alloc (.cells #[v0, v1, v2, v3, v4] t)).heap.size := by show w.heap.size < (w.heap.push _).size; simp
  ⟨cellNew hb 0 rfl, cellNew hb 1 rfl, cellNew hb 2 rfl, cellNew hb 3 rfl, cellNew hb 4 rfl,
   (hb.frozen hl).trans (frozen_new 0), (hb.frozen hl).trans (frozen_new 1), (hb.frozen hl).trans (frozen_new 2), (hb.frozen hl).trans (frozen_new 3), (hb.frozen hl).trans (frozen_new 4)⟩
def putC (w : World) (g : Nat) (u0 u1 u2 u3 u4 : Value) : World := ((((w.setCell ⟨g, 0, none⟩ u0).setCell ⟨g, 1, none⟩ u1).setCell ⟨g, 2, none⟩ u2).setCell ⟨g, 3, none⟩ u3).setCell ⟨g, 4, none⟩ u4
theorem Cm.put (h : Cm w g v0 v1 v2 v3 v4) (u0 u1 u2 u3 u4 : Value) : Cm (putC w g u0 u1 u2 u3 u4) g u0 u1 u2 u3 u4 := by
  have hl := h.lt
  have n (i j : Nat) (e : i ≠ j) : (⟨g, i, none⟩ : Addr) ≠ ⟨g, j, none⟩ := fun x => e (by injection x)
  have a0 := h.c0
  have a1 : (w.setCell ⟨g, 0, none⟩ u0).cell? ⟨g, 1, none⟩ = some v1 := by rw [World.cell?_setCell_other w _ _ _ (n 0 1 (by decide))]; exact h.c1
  have a2 : ((w.setCell ⟨g, 0, none⟩ u0).setCell ⟨g, 1, none⟩ u1).cell? ⟨g, 2, none⟩ = some v2 := by
    rw [World.cell?_setCell_other _ _ _ _ (n 1 2 (by decide)), World.cell?_setCell_other w _ _ _ (n 0 2 (by decide))]; exact h.c2
  have a3 : (((w.setCell ⟨g, 0, none⟩ u0).setCell ⟨g, 1, none⟩ u1).setCell ⟨g, 2, none⟩ u2).cell? ⟨g, 3, none⟩ = some v3 := by
    rw [World.cell?_setCell_other _ _ _ _ (n 2 3 (by decide)), World.cell?_setCell_other _ _ _ _ (n 1 3 (by decide)), World.cell?_setCell_other w _ _ _ (n 0 3 (by decide))]; exact h.c3
  have a4 : ((((w.setCell ⟨g, 0, none⟩ u0).setCell ⟨g, 1, none⟩ u1).setCell ⟨g, 2, none⟩ u2).setCell ⟨g, 3, none⟩ u3).cell? ⟨g, 4, none⟩ = some v4 := by
    rw [World.cell?_setCell_other _ _ _ _ (n 3 4 (by decide)), World.cell?_setCell_other _ _ _ _ (n 2 4 (by decide)), World.cell?_setCell_other _ _ _ _ (n 1 4 (by decide)), World.cell?_setCell_other w _ _ _ (n 0 4 (by decide))]; exact h.c4
  refine ⟨?_, ?_, ?_, ?_, ?_, ?_, ?_, ?_, ?_, ?_⟩
  · unfold putC
    rw [World.cell?_setCell_other _ _ _ _ (n 4 0 (by decide)), World.cell?_setCell_other _ _ _ _ (n 3 0 (by decide)), World.cell?_setCell_other _ _ _ _ (n 2 0 (by decide)), World.cell?_setCell_other _ _ _ _ (n 1 0 (by decide)), World.cell?_setCell_same w _ _ a0]
  · unfold putC
    rw [World.cell?_setCell_other _ _ _ _ (n 4 1 (by decide)), World.cell?_setCell_other _ _ _ _ (n 3 1 (by decide)), World.cell?_setCell_other _ _ _ _ (n 2 1 (by decide)), World.cell?_setCell_same _ _ _ a1]
  · unfold putC
    rw [World.cell?_setCell_other _ _ _ _ (n 4 2 (by decide)), World.cell?_setCell_other _ _ _ _ (n 3 2 (by decide)), World.cell?_setCell_same _ _ _ a2]
  · unfold putC
    rw [World.cell?_setCell_other _ _ _ _ (n 4 3 (by decide)), World.cell?_setCell_same _ _ _ a3]
  · unfold putC
    rw [World.cell?_setCell_same _ _ _ a4]
  · unfold putC; simp only [World.frozen?_setCell]; exact h.f0
  · unfold putC; simp only [World.frozen?_setCell]; exact h.f1
  · unfold putC; simp only [World.frozen?_setCell]; exact h.f2
  · unfold putC; simp only [World.frozen?_setCell]; exact h.f3
  · unfold putC; simp only [World.frozen?_setCell]; exact h.f4
theorem putC_below {w0 : World} (h : Below w0.heap.size w0 w) (hg : w0.heap.size ≤ g) (u0 u1 u2 u3 u4 : Value) : Below w0.heap.size w0 (putC w g u0 u1 u2 u3 u4) :=
  ((((h.setCell (p := ⟨g, 0, none⟩) hg u0).setCell (p := ⟨g, 1, none⟩) hg u1).setCell (p := ⟨g, 2, none⟩) hg u2).setCell (p := ⟨g, 3, none⟩) hg u3).setCell (p := ⟨g, 4, none⟩) hg u4
theorem load5 {ty : TypeId} {d : TypeDesc} (h : Cm w g v0 v1 v2 v3 v4) (hu : Tryz.prog.underlying ty = some d) (hd : d.isRow = true) (hi : (Tryz.prog.info? ty).map (·.size) = some 5) :
    (loadVar ty ⟨g, 0, none⟩).run Tryz.prog w = .ok (.agg #[v0, v1, v2, v3, v4]) w := by
  refine run_loadVar_mid w g 0 ty [v0, v1, v2, v3, v4] d (fun j v hv => ?_) hu hd hi
  match j, hv with
  | 0, hv => simp at hv; subst hv; simpa using h.c0
  | 1, hv => simp at hv; subst hv; simpa using h.c1
  | 2, hv => simp at hv; subst hv; simpa using h.c2
  | 3, hv => simp at hv; subst hv; simpa using h.c3
  | 4, hv => simp at hv; subst hv; simpa using h.c4
theorem results_ct5 {fn : Func} {p u : Tmp} {ty : TypeId} (h : fn.results = #[.cell p ty, .tmp u]) (tmps : Array Value) (w : World) (g : Nat) {v0 v1 v2 v3 v4 : Value} (d : TypeDesc)
    (hp : tmps.getD p undef = .pointer (some ⟨g, 0, none⟩)) (hc : Cm w g v0 v1 v2 v3 v4) (hu : Tryz.prog.underlying ty = some d) (hd : d.isRow = true) (hi : (Tryz.prog.info? ty).map (·.size) = some 5) :
    (results fn tmps).run Tryz.prog w = .ok (.tuple #[.agg #[v0, v1, v2, v3, v4], tmps.getD u undef]) w := by
  have hp' : tmps[p]?.getD undef = .pointer (some ⟨g, 0, none⟩) := by simpa using hp
  simp [results, h, hp', asAddr, load5 hc hu hd hi]
end

/-- A command and a code: kind, argument, local part, domain, size, code. -/
abbrev CmdR := Int × List UInt8 × List UInt8 × List UInt8 × Int × Int
def cmdE (code : Int) : CmdR := (0, [], [], [], 0, code)
def cmdV (r : CmdR) : Value := .tuple #[.agg #[.int .i64 r.1, .string ⟨r.2.1.toArray⟩, .string ⟨r.2.2.1.toArray⟩, .string ⟨r.2.2.2.1.toArray⟩, .int .i64 r.2.2.2.2.1], .int .i64 r.2.2.2.2.2]
def fromT : List UInt8 := [32, 102, 114, 111, 109, 58]
def toT : List UInt8 := [32, 116, 111, 58]
def mailT : List UInt8 × List UInt8 × List UInt8 × Bool → CmdR
  | (lo, d, r, ok) => if ok = false then cmdE 501 else match r with
    | [] => (3, [], lo, d, -1, 0)
    | c :: q => if c = 32 then (if sizeB (c :: q) then (3, [], lo, d, (sizeR (c :: q)).1, 0) else cmdE 555) else cmdE 501
def mailL (l : List UInt8) : CmdR := mailT (cpathL l fromT)
def rcptT : List UInt8 × List UInt8 × List UInt8 × Bool → CmdR
  | (lo, d, r, ok) => if ok = false then cmdE 501 else if nullB lo d = true then cmdE 501 else match r with
    | [] => (4, [], lo, d, 0, 0)
    | c :: _ => if c = 32 then cmdE 555 else cmdE 501
def rcptL (l : List UInt8) : CmdR := rcptT (cpathL l toT)
theorem pathL_bad {l lo d r : List UInt8} {e : Int} (h : pathL l = (lo, d, r, e)) (he : (e == 0) = false) : r = [] := by
  unfold pathL at h
  split at h
  · simp only [Prod.mk.injEq] at h; exact h.2.2.1.symm
  · split at h
    · simp only [Prod.mk.injEq] at h; rw [← h.2.2.2] at he; cases he
    · simp only [Prod.mk.injEq] at h; exact h.2.2.1.symm
theorem cpathL_bad {l ah : List UInt8} {lo d r : List UInt8} (h : cpathL l ah = (lo, d, r, false)) : r = [] := by
  unfold cpathL at h
  split at h
  · rcases hp : pathL (Lib.trimLeftB (l.drop ah.length) 32) with ⟨a, b, c, e⟩
    rw [hp] at h
    simp only [Prod.mk.injEq] at h
    rw [← h.2.2.1]
    exact pathL_bad hp h.2.2.2
  · simp only [Prod.mk.injEq] at h; exact h.2.2.1.symm
theorem tl_empty {c : UInt8} {q : List UInt8} : ((⟨(c :: q).toArray⟩ : ByteArray).toList).isEmpty = false := by rw [Go.ByteArray.toList_eq]; rfl

theorem coreO_suffix {l lo d r : List UInt8} (h : coreO l = some (lo, d, r)) : r <:+ l := by
  unfold coreO at h
  cases h1 : routeO l with
  | none => rw [h1] at h; cases h
  | some r1 =>
    cases h2 : localO r1 with
    | none => rw [h1] at h; simp only [h2] at h; cases h
    | some p =>
      obtain ⟨a, r2⟩ := p
      have s1 := routeO_suffix h1
      have s2 := (localO_suffix h2).1
      rw [h1] at h
      simp only [h2] at h
      cases r2 with
      | nil => cases h
      | cons c r3 =>
        simp only at h
        split at h
        · split at h
          · split at h
            · cases h
            · rename_i e r5 he
              split at h
              · simp only [Option.some.injEq, Prod.mk.injEq] at h
                rw [← h.2.2]
                have s3 : e :: r5 <:+ r3 := by rw [← he]; exact List.dropWhile_suffix _
                exact ((List.suffix_cons e r5).trans s3).trans ((List.suffix_cons c r3).trans (s2.trans s1))
              · cases h
          · cases h
        · cases h
theorem pathL_len (l : List UInt8) : (pathL l).2.2.1.length ≤ l.length := by
  unfold pathL
  split
  · exact Nat.zero_le _
  · rename_i lo d r h
    have hr : r <:+ l := by
      unfold pathO at h
      split at h
      · cases h
      · rename_i c q
        split at h
        · split at h
          · cases h
          · rename_i e p
            split at h
            · simp only [Option.some.injEq, Prod.mk.injEq] at h
              rw [← h.2.2]
              exact (List.suffix_cons e p).trans (List.suffix_cons c (e :: p))
            · exact (coreO_suffix h).trans (List.suffix_cons _ _)
        · cases h
    split
    · exact hr.length_le
    · exact Nat.zero_le _
theorem cpathL_len (l ah : List UInt8) : (cpathL l ah).2.2.1.length ≤ l.length := by
  unfold cpathL
  split
  · have h1 := pathL_len (Lib.trimLeftB (l.drop ah.length) 32)
    have h2 := trimLeftB_len (l.drop ah.length) 32
    rw [List.length_drop] at h2
    exact Nat.le_trans h1 (by omega)
  · exact Nat.zero_le _

set_option maxHeartbeats 8000000 in
set_option maxRecDepth 100000 in
theorem mail_any (s : ByteArray) (hs : s.size ≤ 2000000000) (w : World) (hGL : GL w) :
    Calls Tryz.prog 73 #[.string s] w fun e w' => e = .returned (cmdV (mailL s.data.toList)) ∧ Below w.heap.size w w' := by
  have cp := fun W (hW : GL W) => cpath_any s ⟨#[32, 102, 114, 111, 109, 58]⟩ hs (by decide) W hW
  have hrl := cpathL_len s.data.toList fromT
  rcases hp : cpathL s.data.toList fromT with ⟨lo, d, r, ok⟩
  have hp' : cpathL s.data.toList (⟨#[32, 102, 114, 111, 109, 58]⟩ : ByteArray).data.toList = (lo, d, r, ok) := hp
  rw [hp'] at cp
  rw [hp] at hrl
  have hrl2 : r.length ≤ s.size := by rw [len_eq] at hrl; exact hrl
  clear hrl
  change ∀ W, GL W → Calls _ _ _ W (fun e' w' => e' = Ending.returned (.tuple #[.agg #[.string ⟨lo.toArray⟩, .string ⟨d.toArray⟩], .string ⟨r.toArray⟩, .bool ok]) ∧ _) at cp
  have HM0 : mailL s.data.toList = mailT (lo, d, r, ok) := by unfold mailL; rw [hp]
  have HLO : ∀ x : ByteArray, (⟨lo.toArray⟩ : ByteArray) = x → Hid (x = ⟨lo.toArray⟩) := fun x h => Lib.hid h.symm
  have HDO : ∀ x : ByteArray, (⟨d.toArray⟩ : ByteArray) = x → Hid (x = ⟨d.toArray⟩) := fun x h => Lib.hid h.symm
  generalize hlo : (⟨lo.toArray⟩ : ByteArray) = lo' at cp
  generalize hd : (⟨d.toArray⟩ : ByteArray) = d' at cp
  have EL := HLO _ hlo
  have ED := HDO _ hd
  clear HLO HDO hlo hd hp'
  cases ok with
  | false =>
    obtain rfl := cpathL_bad hp
    have HF : Hid (mailL s.data.toList = cmdE 501) := Lib.hid HM0
    clear hp HM0
    go_enter Tryz.func73, Tryz.ntmps73
    go_wp2_with (go_at_call 116; refine (cp _ (hGL.step (belowA (Below.refl _ _) _))).mono ?_; rintro e w1 ⟨rfl, HB1⟩; have C1 := Lib.hid (cm_new HB1); have B1 := Lib.hid (belowT (belowA (Below.refl _ _) _) HB1); have cx := (fun o => C1.out.alloc o); have x0 := (fun o => (cx o).c0); have x1 := (fun o => (cx o).c1); have x2 := (fun o => (cx o).c2); have x3 := (fun o => (cx o).c3); have x4 := (fun o => (cx o).c4); have y0 := (fun o => (cx o).f0); have y1 := (fun o => (cx o).f1); have y2 := (fun o => (cx o).f2); have y3 := (fun o => (cx o).f3); have y4 := (fun o => (cx o).f4); clear cx)
    (try simp only [Exit.inBlock, Exit.then])
    refine bodyPost_ret (results_ct5 rfl _ _ w.heap.size _ rfl ((C1.out.alloc (.cells #[.string lo', .string d'] 23)).put (.int .i64 0) (.string ⟨#[]⟩) (.string ⟨#[]⟩) (.string ⟨#[]⟩) (.int .i64 0)) Tryz.underlying57 rfl (by kernel_rfl)) rfl ?_
    refine ⟨?_, putC_below (belowA B1.out _) (Nat.le_refl _) _ _ _ _ _⟩
    rw [HF.out]; rfl
  | true =>
    clear hp
    cases r with
    | nil =>
      have HF : Hid (mailL s.data.toList = (3, [], lo, d, -1, 0)) := Lib.hid HM0
      clear HM0
      go_enter Tryz.func73, Tryz.ntmps73
      go_wp2_with (go_at_call 116; refine (cp _ (hGL.step (belowA (Below.refl _ _) _))).mono ?_; rintro e w1 ⟨rfl, HB1⟩; have C1 := Lib.hid (cm_new HB1); have B1 := Lib.hid (belowT (belowA (Below.refl _ _) _) HB1); have cx := (fun o => C1.out.alloc o); have x0 := (fun o => (cx o).c0); have x1 := (fun o => (cx o).c1); have x2 := (fun o => (cx o).c2); have x3 := (fun o => (cx o).c3); have x4 := (fun o => (cx o).c4); have y0 := (fun o => (cx o).f0); have y1 := (fun o => (cx o).f1); have y2 := (fun o => (cx o).f2); have y3 := (fun o => (cx o).f3); have y4 := (fun o => (cx o).f4); clear cx)
      (try simp only [Exit.inBlock, Exit.then])
      refine bodyPost_ret (results_ct5 rfl _ _ w.heap.size _ rfl ((C1.out.alloc (.cells #[.string lo', .string d'] 23)).put (.int .i64 3) (.string ⟨#[]⟩) (.string lo') (.string d') (.int .i64 (-1))) Tryz.underlying57 rfl (by kernel_rfl)) rfl ?_
      refine ⟨?_, putC_below (belowA B1.out _) (Nat.le_refl _) _ _ _ _ _⟩
      rw [HF.out, EL.out, ED.out]; rfl
    | cons c q =>
      have hrs : (⟨(c :: q).toArray⟩ : ByteArray).size ≤ 2000000000 := by rw [← len_eq]; simp at hrl2 ⊢; omega
      have hr0 : 0 < (⟨(c :: q).toArray⟩ : ByteArray).size := by rw [← len_eq]; simp
      have hc0 : (⟨(c :: q).toArray⟩ : ByteArray)[0] = c := rfl
      have hE : ((⟨(c :: q).toArray⟩ : ByteArray).toList).isEmpty = false := tl_empty
      have hl : (⟨(c :: q).toArray⟩ : ByteArray).data.toList = c :: q := by simp
      have HM : Hid (mailL s.data.toList = if c = 32 then (if sizeB (c :: q) then (3, [], lo, d, (sizeR (c :: q)).1, 0) else cmdE 555) else cmdE 501) := Lib.hid HM0
      clear HM0
      generalize (⟨(c :: q).toArray⟩ : ByteArray) = rest at cp hrs hr0 hc0 hE hl
      have cz := fun W (hW : GL W) => size_any rest hrs W hW
      rw [hl] at cz
      unfold SizeEnd at cz
      have i0 : (0 : Int) < (rest.size : Int) := by omega
      clear hl hrl2
      by_cases h32 : c = 32
      · have q0 : (((rest[0].toNat : Int) != 32) : Bool) = false := u8_lit' rest[0] 32 (hc0.trans h32)
        rw [if_pos h32] at HM
        generalize sizeB (c :: q) = m at cz HM
        clear h32 hc0
        cases m with
        | true =>
          have HK : Hid (mailL s.data.toList = (3, [], lo, d, (sizeR (c :: q)).1, 0)) := Lib.hid HM.out
          clear HM
          go_enter Tryz.func73, Tryz.ntmps73
          go_wp2_with (first | (go_at_call 116; refine (cp _ (hGL.step (belowA (Below.refl _ _) _))).mono ?_; rintro e w1 ⟨rfl, HB1⟩; have C1 := Lib.hid (cm_new HB1); have B1 := Lib.hid (belowT (belowA (Below.refl _ _) _) HB1); have cx := (fun o => C1.out.alloc o); have x0 := (fun o => (cx o).c0); have x1 := (fun o => (cx o).c1); have x2 := (fun o => (cx o).c2); have x3 := (fun o => (cx o).c3); have x4 := (fun o => (cx o).c4); have y0 := (fun o => (cx o).f0); have y1 := (fun o => (cx o).f1); have y2 := (fun o => (cx o).f2); have y3 := (fun o => (cx o).f3); have y4 := (fun o => (cx o).f4); clear cx) | (go_at_call 117; refine (cz _ (hGL.step (belowA B1.out _))).mono ?_; rintro e w2 ⟨⟨v, rfl, hv⟩, HB2⟩; have C2 := Lib.hid ((C1.out.alloc (.cells #[.string lo', .string d'] 23)).below HB2); have B2 := Lib.hid (belowT (belowA B1.out _) HB2); have A2 := Lib.hid (HB2.cell (p := ⟨w1.heap.size, 0, none⟩) (by simp)); have HV := Lib.hid hv; clear hv; have a20 : w2.cell? ⟨w1.heap.size, 0, none⟩ = some (.string lo') := cellNew HB2 0 rfl; have a21 : w2.cell? ⟨w1.heap.size, 1, none⟩ = some (.string d') := cellNew HB2 1 rfl; obtain ⟨q0, q1, q2, q3, q4, q5, q6, q7, q8, q9⟩ := C2.out; clear A2))
          (try simp only [Exit.inBlock, Exit.then])
          refine bodyPost_ret (results_ct5 rfl _ _ w.heap.size _ rfl (C2.out.put (.int .i64 3) (.string ⟨#[]⟩) (.string lo') (.string d') (.int .i64 v)) Tryz.underlying57 rfl (by kernel_rfl)) rfl ?_
          refine ⟨?_, putC_below B2.out (Nat.le_refl _) _ _ _ _ _⟩
          rw [HK.out, EL.out, ED.out, HV.out trivial]; rfl
        | false =>
          have HK : Hid (mailL s.data.toList = cmdE 555) := Lib.hid HM.out
          clear HM
          go_enter Tryz.func73, Tryz.ntmps73
          go_wp2_with (first | (go_at_call 116; refine (cp _ (hGL.step (belowA (Below.refl _ _) _))).mono ?_; rintro e w1 ⟨rfl, HB1⟩; have C1 := Lib.hid (cm_new HB1); have B1 := Lib.hid (belowT (belowA (Below.refl _ _) _) HB1); have cx := (fun o => C1.out.alloc o); have x0 := (fun o => (cx o).c0); have x1 := (fun o => (cx o).c1); have x2 := (fun o => (cx o).c2); have x3 := (fun o => (cx o).c3); have x4 := (fun o => (cx o).c4); have y0 := (fun o => (cx o).f0); have y1 := (fun o => (cx o).f1); have y2 := (fun o => (cx o).f2); have y3 := (fun o => (cx o).f3); have y4 := (fun o => (cx o).f4); clear cx) | (go_at_call 117; refine (cz _ (hGL.step (belowA B1.out _))).mono ?_; rintro e w2 ⟨⟨v, rfl, hv⟩, HB2⟩; have C2 := Lib.hid ((C1.out.alloc (.cells #[.string lo', .string d'] 23)).below HB2); have B2 := Lib.hid (belowT (belowA B1.out _) HB2); have A2 := Lib.hid (HB2.cell (p := ⟨w1.heap.size, 0, none⟩) (by simp)); have HV := Lib.hid hv; clear hv; have a20 : w2.cell? ⟨w1.heap.size, 0, none⟩ = some (.string lo') := cellNew HB2 0 rfl; have a21 : w2.cell? ⟨w1.heap.size, 1, none⟩ = some (.string d') := cellNew HB2 1 rfl; obtain ⟨q0, q1, q2, q3, q4, q5, q6, q7, q8, q9⟩ := C2.out; clear A2))
          (try simp only [Exit.inBlock, Exit.then])
          refine bodyPost_ret (results_ct5 rfl _ _ w.heap.size _ rfl (C2.out.put (.int .i64 0) (.string ⟨#[]⟩) (.string ⟨#[]⟩) (.string ⟨#[]⟩) (.int .i64 0)) Tryz.underlying57 rfl (by kernel_rfl)) rfl ?_
          refine ⟨?_, putC_below B2.out (Nat.le_refl _) _ _ _ _ _⟩
          rw [HK.out]; rfl
      · have q0 : (((rest[0].toNat : Int) != 32) : Bool) = true := u8_nlit' rest[0] 32 (fun e => h32 (hc0.symm.trans e))
        rw [if_neg h32] at HM
        generalize sizeB (c :: q) = m at cz
        clear h32 hc0
        go_enter Tryz.func73, Tryz.ntmps73
        go_wp2_with (first | (go_at_call 116; refine (cp _ (hGL.step (belowA (Below.refl _ _) _))).mono ?_; rintro e w1 ⟨rfl, HB1⟩; have C1 := Lib.hid (cm_new HB1); have B1 := Lib.hid (belowT (belowA (Below.refl _ _) _) HB1); have cx := (fun o => C1.out.alloc o); have x0 := (fun o => (cx o).c0); have x1 := (fun o => (cx o).c1); have x2 := (fun o => (cx o).c2); have x3 := (fun o => (cx o).c3); have x4 := (fun o => (cx o).c4); have y0 := (fun o => (cx o).f0); have y1 := (fun o => (cx o).f1); have y2 := (fun o => (cx o).f2); have y3 := (fun o => (cx o).f3); have y4 := (fun o => (cx o).f4); clear cx) | (go_at_call 117; refine (cz _ (hGL.step (belowA B1.out _))).mono ?_; rintro e w2 ⟨⟨v, rfl, hv⟩, HB2⟩; have C2 := Lib.hid ((C1.out.alloc (.cells #[.string lo', .string d'] 23)).below HB2); have B2 := Lib.hid (belowT (belowA B1.out _) HB2); have A2 := Lib.hid (HB2.cell (p := ⟨w1.heap.size, 0, none⟩) (by simp)); have HV := Lib.hid hv; clear hv; have a20 : w2.cell? ⟨w1.heap.size, 0, none⟩ = some (.string lo') := cellNew HB2 0 rfl; have a21 : w2.cell? ⟨w1.heap.size, 1, none⟩ = some (.string d') := cellNew HB2 1 rfl; obtain ⟨q0, q1, q2, q3, q4, q5, q6, q7, q8, q9⟩ := C2.out; clear A2))
        (try simp only [Exit.inBlock, Exit.then])
        refine bodyPost_ret (results_ct5 rfl _ _ w.heap.size _ rfl (C2.out.put (.int .i64 0) (.string ⟨#[]⟩) (.string ⟨#[]⟩) (.string ⟨#[]⟩) (.int .i64 0)) Tryz.underlying57 rfl (by kernel_rfl)) rfl ?_
        refine ⟨?_, putC_below B2.out (Nat.le_refl _) _ _ _ _ _⟩
        rw [HM.out]; rfl

set_option maxHeartbeats 8000000 in
set_option maxRecDepth 100000 in
theorem rcpt_any (s : ByteArray) (hs : s.size ≤ 2000000000) (w : World) (hGL : GL w) :
    Calls Tryz.prog 74 #[.string s] w fun e w' => e = .returned (cmdV (rcptL s.data.toList)) ∧ Below w.heap.size w w' := by
  have cp := fun W (hW : GL W) => cpath_any s ⟨#[32, 116, 111, 58]⟩ hs (by decide) W hW
  rcases hp : cpathL s.data.toList toT with ⟨lo, d, r, ok⟩
  have hp' : cpathL s.data.toList (⟨#[32, 116, 111, 58]⟩ : ByteArray).data.toList = (lo, d, r, ok) := hp
  rw [hp'] at cp
  change ∀ W, GL W → Calls _ _ _ W (fun e' w' => e' = Ending.returned (.tuple #[.agg #[.string ⟨lo.toArray⟩, .string ⟨d.toArray⟩], .string ⟨r.toArray⟩, .bool ok]) ∧ _) at cp
  have HM0 : rcptL s.data.toList = rcptT (lo, d, r, ok) := by unfold rcptL; rw [hp]
  have hlo0 : (⟨lo.toArray⟩ : ByteArray).toList = lo := by rw [Go.ByteArray.toList_eq]
  have hd0 : (⟨d.toArray⟩ : ByteArray).toList = d := by rw [Go.ByteArray.toList_eq]
  have HLO : ∀ x : ByteArray, (⟨lo.toArray⟩ : ByteArray) = x → Hid (x = ⟨lo.toArray⟩) := fun x h => Lib.hid h.symm
  have HDO : ∀ x : ByteArray, (⟨d.toArray⟩ : ByteArray) = x → Hid (x = ⟨d.toArray⟩) := fun x h => Lib.hid h.symm
  generalize hlo : (⟨lo.toArray⟩ : ByteArray) = lo' at cp hlo0
  generalize hd : (⟨d.toArray⟩ : ByteArray) = d' at cp hd0
  have EL := HLO _ hlo
  have ED := HDO _ hd
  clear HLO HDO hlo hd hp'
  cases ok with
  | false =>
    have HF : Hid (rcptL s.data.toList = cmdE 501) := Lib.hid HM0
    clear hp HM0 hlo0 hd0
    go_enter Tryz.func74, Tryz.ntmps74
    go_wp2_with (go_at_call 116; refine (cp _ (hGL.step (belowA (Below.refl _ _) _))).mono ?_; rintro e w1 ⟨rfl, HB1⟩; have C1 := Lib.hid (cm_new HB1); have B1 := Lib.hid (belowT (belowA (Below.refl _ _) _) HB1); have cx := (fun o => C1.out.alloc o); have x0 := (fun o => (cx o).c0); have x1 := (fun o => (cx o).c1); have x2 := (fun o => (cx o).c2); have x3 := (fun o => (cx o).c3); have x4 := (fun o => (cx o).c4); have y0 := (fun o => (cx o).f0); have y1 := (fun o => (cx o).f1); have y2 := (fun o => (cx o).f2); have y3 := (fun o => (cx o).f3); have y4 := (fun o => (cx o).f4); clear cx)
    (try simp only [Exit.inBlock, Exit.then])
    refine bodyPost_ret (results_ct5 rfl _ _ w.heap.size _ rfl ((C1.out.alloc (.cells #[.string lo', .string d'] 23)).put (.int .i64 0) (.string ⟨#[]⟩) (.string ⟨#[]⟩) (.string ⟨#[]⟩) (.int .i64 0)) Tryz.underlying57 rfl (by kernel_rfl)) rfl ?_
    refine ⟨?_, putC_below (belowA B1.out _) (Nat.le_refl _) _ _ _ _ _⟩
    rw [HF.out]; rfl
  | true =>
    clear hp
    cases hn : nullB lo d with
    | true =>
      have hnn : lo = [] ∧ d = [] := by
        unfold nullB at hn
        simp only [Bool.and_eq_true, List.isEmpty_iff] at hn
        exact hn
      have e1 : lo'.toList = [] := hlo0.trans hnn.1
      have e2 : d'.toList = [] := hd0.trans hnn.2
      have HF : Hid (rcptL s.data.toList = cmdE 501) := Lib.hid (by rw [HM0]; simp [rcptT, hn])
      clear HM0 hlo0 hd0 hnn hn
      go_enter Tryz.func74, Tryz.ntmps74
      go_wp2_with (go_at_call 116; refine (cp _ (hGL.step (belowA (Below.refl _ _) _))).mono ?_; rintro e w1 ⟨rfl, HB1⟩; have C1 := Lib.hid (cm_new HB1); have B1 := Lib.hid (belowT (belowA (Below.refl _ _) _) HB1); have cx := (fun o => C1.out.alloc o); have x0 := (fun o => (cx o).c0); have x1 := (fun o => (cx o).c1); have x2 := (fun o => (cx o).c2); have x3 := (fun o => (cx o).c3); have x4 := (fun o => (cx o).c4); have y0 := (fun o => (cx o).f0); have y1 := (fun o => (cx o).f1); have y2 := (fun o => (cx o).f2); have y3 := (fun o => (cx o).f3); have y4 := (fun o => (cx o).f4); clear cx)
      (try simp only [Exit.inBlock, Exit.then])
      refine bodyPost_ret (results_ct5 rfl _ _ w.heap.size _ rfl ((C1.out.alloc (.cells #[.string lo', .string d'] 23)).put (.int .i64 0) (.string ⟨#[]⟩) (.string ⟨#[]⟩) (.string ⟨#[]⟩) (.int .i64 0)) Tryz.underlying57 rfl (by kernel_rfl)) rfl ?_
      refine ⟨?_, putC_below (belowA B1.out _) (Nat.le_refl _) _ _ _ _ _⟩
      rw [HF.out]; rfl
    | false =>
      have hnn : (¬ lo'.toList = []) ∨ (lo'.toList = [] ∧ ¬ d'.toList = []) := by
        rw [hlo0, hd0]
        by_cases h1 : lo = []
        · refine .inr ⟨h1, fun h2 => ?_⟩
          rw [h1, h2] at hn; cases hn
        · exact .inl h1
      clear hlo0 hd0
      cases r with
      | nil =>
        have HF : Hid (rcptL s.data.toList = (4, [], lo, d, 0, 0)) := Lib.hid (by rw [HM0]; simp [rcptT, hn])
        clear HM0 hn
        rcases hnn with e1 | ⟨e1, e2⟩
        all_goals
          go_enter Tryz.func74, Tryz.ntmps74
          go_wp2_with (go_at_call 116; refine (cp _ (hGL.step (belowA (Below.refl _ _) _))).mono ?_; rintro e w1 ⟨rfl, HB1⟩; have C1 := Lib.hid (cm_new HB1); have B1 := Lib.hid (belowT (belowA (Below.refl _ _) _) HB1); have cx := (fun o => C1.out.alloc o); have x0 := (fun o => (cx o).c0); have x1 := (fun o => (cx o).c1); have x2 := (fun o => (cx o).c2); have x3 := (fun o => (cx o).c3); have x4 := (fun o => (cx o).c4); have y0 := (fun o => (cx o).f0); have y1 := (fun o => (cx o).f1); have y2 := (fun o => (cx o).f2); have y3 := (fun o => (cx o).f3); have y4 := (fun o => (cx o).f4); clear cx)
          (try simp only [Exit.inBlock, Exit.then])
          refine bodyPost_ret (results_ct5 rfl _ _ w.heap.size _ rfl ((C1.out.alloc (.cells #[.string lo', .string d'] 23)).put (.int .i64 4) (.string ⟨#[]⟩) (.string lo') (.string d') (.int .i64 0)) Tryz.underlying57 rfl (by kernel_rfl)) rfl ?_
          refine ⟨?_, putC_below (belowA B1.out _) (Nat.le_refl _) _ _ _ _ _⟩
          rw [HF.out, EL.out, ED.out]; rfl
      | cons c q =>
        have hr0 : 0 < (⟨(c :: q).toArray⟩ : ByteArray).size := by rw [← len_eq]; simp
        have hc0 : (⟨(c :: q).toArray⟩ : ByteArray)[0] = c := rfl
        have hE : ((⟨(c :: q).toArray⟩ : ByteArray).toList).isEmpty = false := tl_empty
        have HM : rcptL s.data.toList = if c = 32 then cmdE 555 else cmdE 501 := by rw [HM0]; simp [rcptT, hn]
        clear HM0 hn
        generalize (⟨(c :: q).toArray⟩ : ByteArray) = rest at cp hr0 hc0 hE
        have i0 : (0 : Int) < (rest.size : Int) := by omega
        by_cases h32 : c = 32
        · have q0 : (((rest[0].toNat : Int) != 32) : Bool) = false := u8_lit' rest[0] 32 (hc0.trans h32)
          have HK : Hid (rcptL s.data.toList = cmdE 555) := Lib.hid (by rw [HM, if_pos h32])
          clear h32 hc0 HM
          rcases hnn with e1 | ⟨e1, e2⟩
          all_goals
            go_enter Tryz.func74, Tryz.ntmps74
            go_wp2_with (go_at_call 116; refine (cp _ (hGL.step (belowA (Below.refl _ _) _))).mono ?_; rintro e w1 ⟨rfl, HB1⟩; have C1 := Lib.hid (cm_new HB1); have B1 := Lib.hid (belowT (belowA (Below.refl _ _) _) HB1); have cx := (fun o => C1.out.alloc o); have x0 := (fun o => (cx o).c0); have x1 := (fun o => (cx o).c1); have x2 := (fun o => (cx o).c2); have x3 := (fun o => (cx o).c3); have x4 := (fun o => (cx o).c4); have y0 := (fun o => (cx o).f0); have y1 := (fun o => (cx o).f1); have y2 := (fun o => (cx o).f2); have y3 := (fun o => (cx o).f3); have y4 := (fun o => (cx o).f4); clear cx)
            (try simp only [Exit.inBlock, Exit.then])
            refine bodyPost_ret (results_ct5 rfl _ _ w.heap.size _ rfl ((C1.out.alloc (.cells #[.string lo', .string d'] 23)).put (.int .i64 0) (.string ⟨#[]⟩) (.string ⟨#[]⟩) (.string ⟨#[]⟩) (.int .i64 0)) Tryz.underlying57 rfl (by kernel_rfl)) rfl ?_
            refine ⟨?_, putC_below (belowA B1.out _) (Nat.le_refl _) _ _ _ _ _⟩
            rw [HK.out]; rfl
        · have q0 : (((rest[0].toNat : Int) != 32) : Bool) = true := u8_nlit' rest[0] 32 (fun e => h32 (hc0.symm.trans e))
          have HK : Hid (rcptL s.data.toList = cmdE 501) := Lib.hid (by rw [HM, if_neg h32])
          clear h32 hc0 HM
          rcases hnn with e1 | ⟨e1, e2⟩
          all_goals
            go_enter Tryz.func74, Tryz.ntmps74
            go_wp2_with (go_at_call 116; refine (cp _ (hGL.step (belowA (Below.refl _ _) _))).mono ?_; rintro e w1 ⟨rfl, HB1⟩; have C1 := Lib.hid (cm_new HB1); have B1 := Lib.hid (belowT (belowA (Below.refl _ _) _) HB1); have cx := (fun o => C1.out.alloc o); have x0 := (fun o => (cx o).c0); have x1 := (fun o => (cx o).c1); have x2 := (fun o => (cx o).c2); have x3 := (fun o => (cx o).c3); have x4 := (fun o => (cx o).c4); have y0 := (fun o => (cx o).f0); have y1 := (fun o => (cx o).f1); have y2 := (fun o => (cx o).f2); have y3 := (fun o => (cx o).f3); have y4 := (fun o => (cx o).f4); clear cx)
            (try simp only [Exit.inBlock, Exit.then])
            refine bodyPost_ret (results_ct5 rfl _ _ w.heap.size _ rfl ((C1.out.alloc (.cells #[.string lo', .string d'] 23)).put (.int .i64 0) (.string ⟨#[]⟩) (.string ⟨#[]⟩) (.string ⟨#[]⟩) (.int .i64 0)) Tryz.underlying57 rfl (by kernel_rfl)) rfl ?_
            refine ⟨?_, putC_below (belowA B1.out _) (Nat.le_refl _) _ _ _ _ _⟩
            rw [HK.out]; rfl
end Go.Proofs.YtkmikhinkbbnnaaGreatDoor.M
