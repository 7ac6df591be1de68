/- The closures of RatioRing. -/
import Derived.Test.YtgkiaonakiflbaaGreatDoorLh
import Derived.Deep.RegionHeld3
namespace Go.Proofs.YtgkiaonakiflbaaGreatDoor
open Go.RowKit

/-- Block A holds sums without an error, block B points there. -/
structure Ring (w : World) (A B : Nat) : Prop where
  rowA : w.rowIs A 71 1 (fun _ => .bool true)
  rowB : w.rowIs B 69 1 (fun _ => .pointer (some ⟨A, 0, none⟩))
  ne : A ≠ B
  farA : A ≠ 1 ∧ A ≠ 0
theorem Ring.cellA {w : World} {A B : Nat} (h : Ring w A B) : w.cell? ⟨A, 0, none⟩ = some (.bool true) := h.rowA.cell (by omega)
theorem Ring.frozenA {w : World} {A B : Nat} (h : Ring w A B) : w.frozen? ⟨A, 0, none⟩ = false := h.rowA.frozen 0
theorem Ring.cellB {w : World} {A B : Nat} (h : Ring w A B) : w.cell? ⟨B, 0, none⟩ = some (.pointer (some ⟨A, 0, none⟩)) := h.rowB.cell (by omega)
theorem Ring.below {w w' : World} {A B : Nat} (h : Ring w A B) (hb : Below w.heap.size w w') : Ring w' A B :=
  ⟨h.rowA.of_block (hb.block A h.rowA.lt), h.rowB.of_block (hb.block B h.rowB.lt), h.ne, h.farA⟩

/-- of, without an error. -/
theorem sums_of (A B : Nat) (c : ByteArray) (w : World) (h : Ring w A B) :
    Calls Tryz.prog 51 #[.pointer (some ⟨A, 0, none⟩), .string c, .int .i64 0] w fun r w' => r = .returned (.string c) ∧ w.grownBy w' (some A) ∧ Ring w' A B := by
  have cA := h.cellA
  have fA := h.frozenA
  go_enter Tryz.func51, Tryz.ntmps51
  go_wp2_with fail
  go_ret
  refine ⟨rfl, only_set' (Below.refl _ _) _, ⟨(h.rowA.set 0 _).congr (fun i hi => if_pos (by omega)), ?_, h.ne, h.farA⟩⟩
  exact h.rowB.of_block ((only_set' (s := A) (Below.refl w.heap.size w) _).block B h.rowB.lt (fun e => h.ne (by injection e with e; exact e.symm)))

/-- What a closure leaves. -/
def Got (A B K : Nat) (T U : Int) (w : World) (r : Ending) (w' : World) : Prop := ∃ c, Rep K c T U ∧ r = .returned (.string c) ∧ w.grownBy w' (some A) ∧ Ring w' A B

set_option maxRecDepth 100000 in
set_option maxHeartbeats 1000000 in
theorem ring_add (K A B : Nat) (x y : ByteArray) (N P M Q : Int) (w : World) (hE : Env w) (hs : Ring w A B) (hx : Rep K x N P) (hy : Rep K y M Q) (hK : 2 * K + 1 ≤ 1024) :
    Calls Tryz.prog 50 #[.string x, .string y, .pointer (some ⟨B, 0, none⟩)] w (Got A B (2 * K + 1) (N * Q + M * P) (P * Q) w) := by
  have cB := hs.cellB
  have ltB := hs.rowB.lt
  go_enter Tryz.func50, Tryz.ntmps50
  go_wp2_with fail
  go_region_held3 (fun w' => w'.cell? ⟨B, 0, none⟩ = some (.pointer (some ⟨A, 0, none⟩))) (go_keep)
    (first
      | (go_at_call 19; refine (call_Add K x y N P M Q _ (by exact ⟨hE.tab, hE.mx⟩) hx hy hK).mono ?_; rintro e w2 ⟨c, hc, rfl, hb2⟩; have z0 := (hb2.cell (p := ⟨B, 0, none⟩) ltB).trans cB)
      | (go_at_call 51; refine (sums_of A B c _ (by exact hs.below ⟨hb2.os, hb2.tape, hb2.output, hb2.size, hb2.block⟩)).mono ?_; rintro e w3 ⟨rfl, hg3, hr3⟩; have t0 := hr3.cellB))
  have hb2' : Below w.heap.size w w2 := ⟨hb2.os, hb2.tape, hb2.output, hb2.size, hb2.block⟩
  go_wp2_with fail
  go_ret
  exact ⟨c, hc, rfl, only_trans (only_below (World.grownBy.refl w (some A)) hb2') hg3, hr3⟩

set_option maxRecDepth 100000 in
set_option maxHeartbeats 1000000 in
theorem ring_mul (K A B : Nat) (x y : ByteArray) (N P M Q : Int) (w : World) (hE : Env w) (hs : Ring w A B) (hx : Rep K x N P) (hy : Rep K y M Q) (hK : 2 * K + 1 ≤ 1024) :
    Calls Tryz.prog 52 #[.string x, .string y, .pointer (some ⟨B, 0, none⟩)] w (Got A B (2 * K + 1) (N * M) (P * Q) w) := by
  have cB := hs.cellB
  have ltB := hs.rowB.lt
  go_enter Tryz.func52, Tryz.ntmps52
  go_wp2_with fail
  go_region_held3 (fun w' => w'.cell? ⟨B, 0, none⟩ = some (.pointer (some ⟨A, 0, none⟩))) (go_keep)
    (first
      | (go_at_call 23; refine (call_Mul K x y N P M Q _ (by exact ⟨hE.tab, hE.mx⟩) hx hy hK).mono ?_; rintro e w2 ⟨c, hc, rfl, hb2⟩; have z0 := (hb2.cell (p := ⟨B, 0, none⟩) ltB).trans cB)
      | (go_at_call 51; refine (sums_of A B c _ (by exact hs.below ⟨hb2.os, hb2.tape, hb2.output, hb2.size, hb2.block⟩)).mono ?_; rintro e w3 ⟨rfl, hg3, hr3⟩; have t0 := hr3.cellB))
  have hb2' : Below w.heap.size w w2 := ⟨hb2.os, hb2.tape, hb2.output, hb2.size, hb2.block⟩
  go_wp2_with fail
  go_ret
  exact ⟨c, hc, rfl, only_trans (only_below (World.grownBy.refl w (some A)) hb2') hg3, hr3⟩

/-- The sum of three texts. -/
theorem sum3_rep {a b c : ByteArray} {n p m q u v : Int} (ha : Rep 30 a n p) (hb : Rep 30 b m q) (hc : Rep 30 c u v) : Gives (sumR [a, b, c]) 247 (n * (q * v) + (m * v + u * q) * p) (p * (q * v)) := by
  have hz : Rep 30 ⟨#[48]⟩ 0 1 := (RB.rep ⟨zero_rb.text, zero_rb.pos, zero_rb.cop, by have := wid_zero; omega, by have := wid_one; omega⟩ : Rep 30 ⟨#[48]⟩ 0 1)
  have ez : (⟨#[48]⟩ : ByteArray).toList = [48] := toList_lit _
  have hp := ha.pos; have hq := hb.pos; have hv := hc.pos
  have g1 := add_rep hz ha (by omega)
  rw [ez] at g1
  have r1 := g1.2 ⟨(addR [48] a.toList).1.toArray⟩ (Is.of _)
  have g2 := add_rep r1 (hb.mono (by omega)) (by omega)
  rw [(Is.of (addR [48] a.toList).1).out] at g2
  have r2 := g2.2 ⟨(addR (addR [48] a.toList).1 b.toList).1.toArray⟩ (Is.of _)
  have g3 := add_rep r2 (hc.mono (by omega)) (by omega)
  rw [(Is.of (addR (addR [48] a.toList).1 b.toList).1).out] at g3
  have he : firstErr chkR [a, b, c] = 0 := by
    unfold firstErr; rw [if_pos (chk_rep ha (by omega))]; unfold firstErr; rw [if_pos (chk_rep hb (by omega))]; unfold firstErr; rw [if_pos (chk_rep hc (by omega))]; rfl
  have e : sumR [a, b, c] = ((addR (addR (addR [48] a.toList).1 b.toList).1 c.toList).1, 0) := by
    unfold sumR
    rw [if_pos he, foldR_cons, if_pos g1.1, foldR_cons, if_pos g2.1, foldR_cons, if_pos g3.1]; rfl
  rw [e]
  refine ⟨rfl, fun x hx => (g3.2 x hx).cast (Int.mul_pos hp (Int.mul_pos hq hv)) ?_⟩
  grind
theorem call_Sum3 (bb cap : Nat) (a b c : ByteArray) (n p m q u v : Int) (w : World) (hE : Env w) (ha : Rep 30 a n p) (hb : Rep 30 b m q) (hc : Rep 30 c u v) (hr : Row w bb 0 (strs [a, b, c])) :
    Calls Tryz.prog 37 #[.slice (some ⟨bb, 0, none⟩) 3 cap] w (NewRes 247 (n * (q * v) + (m * v + u * q) * p) (p * (q * v)) w) :=
  (ratio_Sum bb 0 3 cap [a, b, c] w hE rfl (by omega) (by
    intro s hs
    simp only [List.mem_cons, List.not_mem_nil, or_false] at hs
    rcases hs with rfl | rfl | rfl
    · have := ha.size (by omega); omega
    · have := hb.size (by omega); omega
    · have := hc.size (by omega); omega) hr).mono fun _ _ h => OpS.res h (sum3_rep ha hb hc)

end Go.Proofs.YtgkiaonakiflbaaGreatDoor
