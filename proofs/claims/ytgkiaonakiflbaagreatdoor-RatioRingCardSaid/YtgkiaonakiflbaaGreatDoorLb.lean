/- What a row gives: the environment; the witness of a row that lists variables; the law RatioChecks. -/
import Derived.Test.YtgkiaonakiflbaaGreatDoorK9
import Derived.Test.YtgkiaonakiflbaaGreatDoorRows
import Derived.ProofKit
import Derived.OpenShut
import Derived.ChangeMaps5
import Derived.Shelf.Vars
import Derived.Lay
import Derived.LaidSub
import Derived.LaidOnce
import Derived.Lib.LaidTab
import Derived.Deep.DeepHandedRow
namespace Go.Proofs.YtgkiaonakiflbaaGreatDoor
open Go.RowKit Go.WideShapes Go.ChangeShapes Go.ChangeAt

theorem own : ownKnob Tryz.prog.godebug = none := by kernel_rfl

/-- The variables that the rows list. -/
abbrev listed : List (String × DataW Unit) := Rows.ratioRootsRow.laid

theorem tab_type : (Tryz.prog.globals[1]?).map (·.type) = some 195 := by kernel_rfl
theorem env_of_row {W : World} (hL : laidMetH Tryz.prog listed W) (hsh : W.ShapedOpen Tryz.prog) : Env W := by
  refine ⟨?_, ?_⟩
  · rw [MakeChecks.laidMetH_plain _ _ _ (by kernel_rfl)] at hL
    have h1 := laidMet.filter (fun x => x.1 == "internal/strconv.uint64pow10") hL
    exact Lib.tabIs_of_head (rest := []) gTab tab_type Tryz.underlying195 Tryz.underlying177 (by kernel_rfl) (by kernel_rfl) h1
  · exact cell_of_shapedOpen_int (P := Tryz.prog) (t := 3) (zero := #[.int .i64 0]) hsh (of_decide_eq_true (by kernel_rfl)) (by kernel_rfl) rfl (by kernel_rfl) (by kernel_rfl) Tryz.underlying3

theorem witness_zip {H : Type} {enc : TypeId × Value → H} {C : Checked} {os : Os} {f : FuncId} {fn : Func} {s : OpenSpec} {conds : List PathCond} {apart : Bool} {laid : List (String × DataW Unit)} (w0 : World) (args : Array Value) (hos : w0.os = os)
    (hv : (w0.forCall (fun _ _ => 0) ⟨#[], args, []⟩).variablesZipB C.prog = true)
    (hr : ((w0.forCall (fun _ _ => 0) ⟨#[], args, []⟩).heap.toList.drop C.prog.globals.size).take ((begin C.prog (fun _ _ => 0) default).world.heap.size - C.prog.globals.size) =
      (begin C.prog (fun _ _ => 0) default).world.heap.toList.drop C.prog.globals.size)
    (hok : Input.okWideB C.prog (w0.forCall (fun _ _ => 0) ⟨#[], args, []⟩) f ⟨#[], args, []⟩ = true)
    (hrow : s.preRow enc C.prog fn conds apart laid (w0.forCall (fun _ _ => 0) ⟨#[], args, []⟩).memory args) :
    ∃ (w : World) (tape : Tape) (i : Input), w.os = os ∧ (w.forCall tape i).Shaped C.prog ∧ i.vars = [] ∧ Input.okWide C.prog (w.forCall tape i) .any w.heap.size f i ∧
      s.preRow enc C.prog fn conds apart laid (w.forCall tape i).memory i.args ∧ ({} : Assume).holds C.prog (lone (Frame.enter C.prog f i.args .normal) [] (w.forCall tape i)) :=
  ⟨w0, fun _ _ => 0, ⟨#[], args, []⟩, hos, World.shaped_of_ZipB hv hr, (Input.okWide_of_okWideB (base := 0) hok).1, (Input.okWide_of_okWideB hok).2, hrow, by
    simp only [Assume.holds]
    exact ⟨by simp, by simp, fun _ => Modest.zero, by simp, by simp⟩⟩

noncomputable def startWorld (os : Os) : World := World.laidAll Tryz.prog os listed
theorem start_met (os : Os) (args : Array Value) : laidMetH Tryz.prog listed ((startWorld os).forCall (fun _ _ => 0) ⟨#[], args, []⟩).memory := by
  rw [MakeChecks.laidMetH_plain _ _ _ (by kernel_rfl)]
  exact laidMet_laidAll _ (by kernel_rfl) (by kernel_rfl)

set_option maxRecDepth 100000 in
theorem start_vars (os : Os) (args : Array Value) : ((startWorld os).forCall (fun _ _ => 0) ⟨#[], args, []⟩).variablesZipB Tryz.prog = true := by kernel_rfl
set_option maxRecDepth 100000 in
theorem start_rest (os : Os) (args : Array Value) : (((startWorld os).forCall (fun _ _ => 0) ⟨#[], args, []⟩).heap.toList.drop Tryz.prog.globals.size).take ((begin Tryz.prog (fun _ _ => 0) default).world.heap.size - Tryz.prog.globals.size) =
      (begin Tryz.prog (fun _ _ => 0) default).world.heap.toList.drop Tryz.prog.globals.size := by kernel_rfl

end Go.Proofs.YtgkiaonakiflbaaGreatDoor
