/- From what the row lists to the premise of the walks; a world that meets it, for the witness. -/
import Derived.Test.YtkmikhinkbbnnaaGreatDoorManA
import Derived.Test.YtkmikhinkbbnnaaGreatDoorRows
import Derived.Shelf.Vars
import Derived.Stop.LaidErr
import Derived.MakeChecks
import Derived.Lay
import Derived.ProofKit
import Derived.OpenShut
import Derived.Deep.DeepHandedRow
import Derived.Carry
import Derived.Deep.DeepWitnessRowRef
namespace Go.Proofs.YtkmikhinkbbnnaaGreatDoor.M
open Go.ChangeShapes Go.WideShapes Go.ChangeAt Go.RowKit
set_option maxRecDepth 100000

/-- What every row of this seat lists. -/
abbrev laidL : List (String × DataW Unit) := Rows.cmdWordsRow.laid

theorem tPow : (Tryz.prog.globals[1]?).map (·.type) = some 178 := by kernel_rfl
theorem tSyn : (Tryz.prog.globals[4]?).map (·.type) = some 81 := by kernel_rfl
theorem tRng : (Tryz.prog.globals[5]?).map (·.type) = some 81 := by kernel_rfl
theorem cPow : Tryz.prog.cellsOf 178 = 20 := by kernel_rfl
theorem cU64 : Tryz.prog.cellsOf 145 = 1 := by kernel_rfl
theorem cErrS : Tryz.prog.cellsOf 205 = 1 := by kernel_rfl
theorem cStr : Tryz.prog.cellsOf 9 = 1 := by kernel_rfl
theorem rowErrS (u : TypeId) (h : Tryz.prog.typeName? 3 u = some "*errors.errorString") : u = 203 :=
  typeName_ptr_named (nm := "errors.errorString") (by kernel_rfl) (by kernel_rfl) (by decide) u h

theorem gl_of_laid {W : World} (hL : laidMetH Tryz.prog laidL W) (hS : W.ShapedOpen Tryz.prog) : GL W := by
  rw [MakeChecks.laidMetH_plain _ _ _ (by kernel_rfl)] at hL
  have h2 := hL.tail.tail
  refine ⟨cell_of_shapedOpen_int (zero := #[.int .i64 0]) (t := 3) hS (of_decide_eq_true (by kernel_rfl)) (by kernel_rfl) rfl (by kernel_rfl) (by kernel_rfl) Tryz.underlying3, ?_, ?_, ?_⟩
  · exact Lib.tabIs_of_head gPow tPow Tryz.underlying178 Tryz.underlying145 cU64 cPow h2
  · obtain ⟨a, s, h, _⟩ := laid_sentinel h2.tail.tail.tail gSyn tSyn Tryz.underlying81 rowErrS Tryz.underlying203 Tryz.underlying205 rfl rfl Tryz.underlying9 cErrS cStr
    exact ⟨_, _, h⟩
  · obtain ⟨a, s, h, _⟩ := laid_sentinel h2.tail.tail gRng tRng Tryz.underlying81 rowErrS Tryz.underlying203 Tryz.underlying205 rfl rfl Tryz.underlying9 cErrS cStr
    exact ⟨_, _, h⟩

theorem own : ownKnob Tryz.prog.godebug = none := by kernel_rfl
theorem door_met (os : Os) (args : Array Value) : laidMet Tryz.prog laidL ((World.laidAll Tryz.prog os laidL).forCall (fun _ _ => 0) ⟨#[], args, []⟩).memory :=
  laidMet_laidAll args (by kernel_rfl) (by kernel_rfl)
theorem door_met2 (os : Os) (args : Array Value) : laidMetH Tryz.prog laidL ((World.laidAll Tryz.prog os laidL).forCall (fun _ _ => 0) ⟨#[], args, []⟩).memory := by
  rw [MakeChecks.laidMetH_plain _ _ _ (by kernel_rfl)]; exact door_met os args

theorem laidOut : laidOutB Tryz.prog = true := by kernel_rfl

section
variable {H : Type} {enc : TypeId × Value → H} {P : Program}
/-- Arguments that can be read as data read behind a call that made memory only as they did ahead of it. -/
theorem trodAll_below (hl : laidOutB P = true) {W W' : World} (hb : Below W.heap.size W W') : ∀ {ts : List TypeId} {vs : List Value} {ds : List (DataW H)} {p : List MemPlace},
    (∀ t ∈ ts, P.readableRec t = true ∧ t < P.types.size) → DataW.TrodAll enc P W 0 (fun _ => true) true ts vs ds p → (∀ x ∈ p, x.block < W.heap.size) →
    DataW.TrodAll enc P W' 0 (fun b => decide (b < W.heap.size)) true ts vs ds p
  | [], vs, ds, p, _, h, _ => by
    obtain ⟨rfl, rfl, rfl⟩ := trodAll_nil h
    exact trodAll_mk0
  | t :: ts, vs, ds, p, hr, h, hlt => by
    obtain ⟨v, vs', d, ds', p', q, rfl, rfl, rfl, h0, hs⟩ := trodAll_cons h
    exact trodAll_cons_mk (Below.trod hl (hr t (by simp)).1 (hr t (by simp)).2 h0 hb (fun x hx => hlt x (by simp [hx]))) (trodAll_below hl hb (fun u hu => hr u (by simp [hu])) hs (fun x hx => hlt x (by simp [hx])))
theorem readable_all {ts : List TypeId} (h : (ts.all fun t => P.readableRec t && decide (t < P.types.size)) = true) : ∀ t ∈ ts, P.readableRec t = true ∧ t < P.types.size := fun t ht => by
  have := List.all_eq_true.1 h t ht
  rw [Bool.and_eq_true] at this
  exact ⟨this.1, of_decide_eq_true this.2⟩

/-- What a law's row asks: the call returned true, made memory only. -/
theorem post_true {f : Func} {s : ChangeSpec} {W W' : World} {args : Array Value} {ds gs : List (DataW H)} {before : List MemPlace} (hrt : f.resultTypes = #[4])
    (hro : (f.params.toList.all fun t => Tryz.prog.readableRec t && decide (t < Tryz.prog.types.size)) = true) (hvs : s.vars = [])
    (hW : DataW.Whole enc Tryz.prog f.params.toList s.vars false W args.toList ds gs before) (hfn : s.fn H ds = { results := [.lit (.bool true)], args := ds }) (hb : Below W.heap.size W W') :
    s.post enc Tryz.prog f false true false false W args (.bool true) W' := by
  have hlt : ∀ p ∈ before, p.block < W.heap.size := fun p hp => hW.lt p hp
  have hW' := hW
  obtain ⟨p, q, hA, hV, rfl, _, _⟩ := hW'
  rw [hvs] at hV
  obtain ⟨rfl, rfl⟩ := trodVars_none hV
  rw [List.append_nil] at hW hlt
  have hA' := trodAll_below laidOut hb (readable_all hro) hA hlt
  refine ⟨ds, [], p, [], p, [], hW, ?_, ?_, ?_, World.keptBut_mono (fun x hx => ⟨hx, .inr (.inl hx)⟩) (hb.frame (· ∈ p)), fun h => by cases h⟩
  · rw [List.append_nil, hfn, hrt]; exact trodAll_cons_mk (shut_bool Tryz.underlying4 _) trodAll_mk0
  · rw [List.append_nil, hfn]; exact hA'
  · rw [List.append_nil, hfn, hvs]; rfl
end
end Go.Proofs.YtkmikhinkbbnnaaGreatDoor.M
