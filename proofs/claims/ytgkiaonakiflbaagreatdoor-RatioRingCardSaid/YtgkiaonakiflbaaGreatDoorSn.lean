/- The contracts of metrolabref02's Add, Sub, Mul, Div. -/
import Derived.Test.YtgkiaonakiflbaaGreatDoorK9
namespace Go.Proofs.YtgkiaonakiflbaaGreatDoor
open Go.RowKit

theorem row_three {w : World} {b : Nat} {c1 c2 c3 : ByteArray} (h0 : w.cell? ⟨b, 0, none⟩ = some (.string c1)) (h1 : w.cell? ⟨b, 1, none⟩ = some (.string c2)) (h2 : w.cell? ⟨b, 2, none⟩ = some (.string c3)) : Row w b 0 (strs [c1, c2, c3]) :=
  ⟨block_lt_of_cell h0, fun i hi => match i, hi with
    | 0, _ => h0
    | 1, _ => h1
    | 2, _ => h2
    | i + 3, hi => absurd hi (by simp [strs])⟩

theorem add_all (n p m q : Int) : ([n * q, m * p, n * q + m * p, p * q] : List Int).all (fun z => decide (wid z ≤ 1024)) = (!anyLong [n * q, m * p, p * q] && !anyLong [n * q + m * p]) := by
  unfold anyLong
  simp only [List.all_cons, List.all_nil, Bool.and_true, Bool.not_not]
  generalize decide (wid (n * q) ≤ 1024) = A
  generalize decide (wid (m * p) ≤ 1024) = B
  generalize decide (wid (n * q + m * p) ≤ 1024) = C
  generalize decide (wid (p * q) ≤ 1024) = D
  cases A <;> cases B <;> cases C <;> cases D <;> rfl

set_option maxRecDepth 100000 in
set_option maxHeartbeats 2000000 in
theorem ref_AddR (a b : ByteArray) (w : World) (h1 : a.size ≤ 140737488300000) (h2 : b.size ≤ 140737488300000) :
    Calls Tryz.prog 20 #[.string a, .string b] w (OpS (addR a.toList b.toList) w) := by
  by_cases hc : chkR2 a.toList b.toList = 0
  · have ha : chkR a.toList = 0 := by unfold chkR2 at hc; split at hc <;> assumption
    have hb : chkR b.toList = 0 := by unfold chkR2 at hc; rw [if_pos ha] at hc; exact hc
    have ra := RR.of_chk ha
    have rb := RR.of_chk hb
    have hgoal : addR a.toList b.toList = opRes [numOf a.toList * denOf b.toList, numOf b.toList * denOf a.toList, numOf a.toList * denOf b.toList + numOf b.toList * denOf a.toList, denOf a.toList * denOf b.toList] (numOf a.toList * denOf b.toList + numOf b.toList * denOf a.toList) (denOf a.toList * denOf b.toList) := by unfold addR arith; rw [if_pos hc]
    rw [ra.numOf, ra.denOf, rb.numOf, rb.denOf] at hgoal
    generalize addR a.toList b.toList = res at *
    have HC := Lib.hid hc; clear hc ha hb
    generalize num (cutN a.toList) = n at *
    generalize num (cutD a.toList) = p at *
    generalize num (cutN b.toList) = m at *
    generalize num (cutD b.toList) = q at *
    have hD : p * q ≠ 0 := by have := Int.mul_pos ra.pos rb.pos; omega
    unfold opRes at hgoal
    rw [add_all, if_neg hD] at hgoal
    have HG := Lib.hid hgoal; clear hgoal
    have u1 := wid_mul n q
    have u2 := wid_mul m p
    have u3 := wid_mul p q
    have u4 := wid_add (n * q) (m * p)
    have v1 := ra.wn; have v2 := ra.wd; have v3 := rb.wn; have v4 := rb.wd
    have y1 : wid (n * q) ≤ 100000000 := by omega
    have y2 : wid (m * p) ≤ 100000000 := by omega
    have y3 : wid (n * q + m * p) ≤ 100000000 := by omega
    have y4 : wid (p * q) ≤ 100000000 := by omega
    clear u1 u2 u3 u4 v1 v2 v3 v4 hD
    have HZ3 : ∀ c1 c2 c3 : ByteArray, IsI c1 (n * q) → IsI c2 (m * p) → IsI c3 (p * q) → ∀ i (h : i < [c1, c2, c3].length) (h' : i < [n * q, m * p, p * q].length), IsI [c1, c2, c3][i] [n * q, m * p, p * q][i] ∧ wid [n * q, m * p, p * q][i] ≤ 100000000 := fun c1 c2 c3 i1 i2 i3 i h h' => match i, h with
      | 0, _ => ⟨i1, y1⟩
      | 1, _ => ⟨i2, y2⟩
      | 2, _ => ⟨i3, y4⟩
      | i + 3, h => absurd h (by simp)
    have HZ1 : ∀ c : ByteArray, IsI c (n * q + m * p) → ∀ i (h : i < [c].length) (h' : i < [n * q + m * p].length), IsI [c][i] [n * q + m * p][i] ∧ wid [n * q + m * p][i] ≤ 100000000 := fun c i1 i h h' => match i, h with
      | 0, _ => ⟨i1, y3⟩
      | i + 1, h => absurd h (by simp)
    rcases (show anyLong [n * q, m * p, p * q] = true ∨ anyLong [n * q, m * p, p * q] = false by cases anyLong [n * q, m * p, p * q] <;> simp) with g1 | g1
    · have HF : Hid (res = ([], 11)) := by show _ = _; rw [HG.out, g1]; rfl
      have G1 := Lib.hid g1; clear g1 HG
      go_enter Tryz.func20, Tryz.ntmps20
      go_wp2_with fail
      refine (ref_pair a b _ h1 h2).mono ?_
      rintro e w0 ⟨rfl, hb0⟩
      rw [HC.out]
      go_wp2_with fail
      refine (ref_crossed 1024 a b n p m q _ ra.rb rb.rb (by omega)).mono ?_
      rintro r w1 ⟨bb, ss, rfl, hlo, hB1, hrow, c1, c2, c3, c4, c5, rfl, i1, i2, i3, i4, i5⟩
      have hB := hb0.trans (hB1.mono hb0.size)
      obtain ⟨x0, x1, x2, x3, x4⟩ := row_cells hrow
      have hlt := hrow.1
      go_wp2_with fail
      have keyL : ∀ wx : World, wx.cell? ⟨bb, 0, none⟩ = some (.string c1) → wx.cell? ⟨bb, 1, none⟩ = some (.string c2) → wx.cell? ⟨bb, 2, none⟩ = some (.string c3) → Calls Tryz.prog 71 #[.slice (some ⟨bb, 0, none⟩) 3 5] wx fun r w' => r = .returned (.bool true) ∧ w' = wx := fun wx k0 k1 k2 => by
        have := ref_long bb 0 3 5 [c1, c2, c3] [n * q, m * p, p * q] wx rfl rfl (by omega) (HZ3 c1 c2 c3 i1 i2 i3) (row_three k0 k1 k2)
        rw [G1.out] at this
        exact this.mono fun _ _ h => ⟨h.1, h.2.symm⟩
      have KL := Lib.hid keyL; clear keyL
      go_quiet ((go_at_call 71; exact Calls.quiet_of_same (KL.out _ (by exact x0) (by exact x1) (by exact x2))))
      go_wp2_with fail
      go_ret2
      rw [HF.out]
      exact ⟨_, toList_lit [], rfl, ⟨hB.os, hB.tape, hB.output, hB.size, hB.block⟩⟩
    · rcases (show anyLong [n * q + m * p] = true ∨ anyLong [n * q + m * p] = false by cases anyLong [n * q + m * p] <;> simp) with g2 | g2
      · have HF : Hid (res = ([], 11)) := by show _ = _; rw [HG.out, g1, g2]; rfl
        have G1 := Lib.hid g1; have G2 := Lib.hid g2; clear g1 g2 HG
        go_enter Tryz.func20, Tryz.ntmps20
        go_wp2_with fail
        refine (ref_pair a b _ h1 h2).mono ?_
        rintro e w0 ⟨rfl, hb0⟩
        rw [HC.out]
        go_wp2_with fail
        refine (ref_crossed 1024 a b n p m q _ ra.rb rb.rb (by omega)).mono ?_
        rintro r w1 ⟨bb, ss, rfl, hlo, hB1, hrow, c1, c2, c3, c4, c5, rfl, i1, i2, i3, i4, i5⟩
        have hB := hb0.trans (hB1.mono hb0.size)
        obtain ⟨x0, x1, x2, x3, x4⟩ := row_cells hrow
        have hlt := hrow.1
        go_wp2_with fail
        go_region_held3 (fun w' => w'.cell? ⟨bb, 0, none⟩ = some (.string c1) ∧ w'.cell? ⟨bb, 1, none⟩ = some (.string c2) ∧ w'.cell? ⟨bb, 2, none⟩ = some (.string c3)) (go_keep)
          (first
            | (go_at_call 71; have hs1' := hs1; refine (ref_long _ 0 1 1 [s1] [n * q + m * p] _ rfl rfl (by omega) (HZ1 s1 hs1) (row_new _ _ _)).mono ?_; rintro e w4 ⟨rfl, rfl⟩; rw [G2.out])
            | (go_at_call 72; refine (ref_Plus c1 c2 _ _ _ i1 i2 y1 y2).mono ?_; rintro e w2 ⟨s1, hs1, rfl, hb2⟩; have z0 := (hb2.cell (p := ⟨bb, 0, none⟩) hlt).trans x0; have z1 := (hb2.cell (p := ⟨bb, 1, none⟩) hlt).trans x1; have z2 := (hb2.cell (p := ⟨bb, 2, none⟩) hlt).trans x2)
            | (go_at_call 71; refine (ref_long bb 0 3 5 [c1, c2, c3] [n * q, m * p, p * q] _ rfl rfl (by omega) (HZ3 c1 c2 c3 i1 i2 i3) (by exact row_three (by exact x0) (by exact x1) (by exact x2))).mono ?_; rintro e w3 ⟨rfl, rfl⟩; rw [G1.out]))
        have hb2' : Below w1.heap.size w1 w2 := ⟨hb2.os, hb2.tape, hb2.output, hb2.size, hb2.block⟩
        have hB2 := hB.trans (hb2'.mono hB.size)
        have hB4 : Below w.heap.size w (w2.alloc (.cells (strs [s1]).toArray 43)) := hB2.alloc hB2.size _
        generalize w2.alloc (.cells (strs [s1]).toArray 43) = w4 at *
        go_wp2_with fail
        go_ret2
        rw [HF.out]
        exact ⟨_, toList_lit [], rfl, hB4⟩
      · have HF : Hid (res = (rtext (lowN (n * q + m * p) (p * q)) (lowD (n * q + m * p) (p * q)), 0)) := by show _ = _; rw [HG.out, g1, g2]; rfl
        have G1 := Lib.hid g1; have G2 := Lib.hid g2; clear g1 g2 HG
        go_enter Tryz.func20, Tryz.ntmps20
        go_wp2_with fail
        refine (ref_pair a b _ h1 h2).mono ?_
        rintro e w0 ⟨rfl, hb0⟩
        rw [HC.out]
        go_wp2_with fail
        refine (ref_crossed 1024 a b n p m q _ ra.rb rb.rb (by omega)).mono ?_
        rintro r w1 ⟨bb, ss, rfl, hlo, hB1, hrow, c1, c2, c3, c4, c5, rfl, i1, i2, i3, i4, i5⟩
        have hB := hb0.trans (hB1.mono hb0.size)
        obtain ⟨x0, x1, x2, x3, x4⟩ := row_cells hrow
        have hlt := hrow.1
        go_wp2_with fail
        go_region_held3 (fun w' => w'.cell? ⟨bb, 0, none⟩ = some (.string c1) ∧ w'.cell? ⟨bb, 1, none⟩ = some (.string c2) ∧ w'.cell? ⟨bb, 2, none⟩ = some (.string c3)) (go_keep)
          (first
            | (go_at_call 71; have hs1' := hs1; refine (ref_long _ 0 1 1 [s1] [n * q + m * p] _ rfl rfl (by omega) (HZ1 s1 hs1) (row_new _ _ _)).mono ?_; rintro e w4 ⟨rfl, rfl⟩; rw [G2.out])
            | (go_at_call 72; refine (ref_Plus c1 c2 _ _ _ i1 i2 y1 y2).mono ?_; rintro e w2 ⟨s1, hs1, rfl, hb2⟩; have z0 := (hb2.cell (p := ⟨bb, 0, none⟩) hlt).trans x0; have z1 := (hb2.cell (p := ⟨bb, 1, none⟩) hlt).trans x1; have z2 := (hb2.cell (p := ⟨bb, 2, none⟩) hlt).trans x2)
            | (go_at_call 71; refine (ref_long bb 0 3 5 [c1, c2, c3] [n * q, m * p, p * q] _ rfl rfl (by omega) (HZ3 c1 c2 c3 i1 i2 i3) (by exact row_three (by exact x0) (by exact x1) (by exact x2))).mono ?_; rintro e w3 ⟨rfl, rfl⟩; rw [G1.out]))
        have hb2' : Below w1.heap.size w1 w2 := ⟨hb2.os, hb2.tape, hb2.output, hb2.size, hb2.block⟩
        have hB2 := hB.trans (hb2'.mono hB.size)
        have hB4 : Below w.heap.size w (w2.alloc (.cells (strs [s1]).toArray 43)) := hB2.alloc hB2.size _
        generalize w2.alloc (.cells (strs [s1]).toArray 43) = w4 at *
        go_wp2_with fail
        refine (ref_PlusR 1024 a b n p m q _ ra.rb rb.rb (by omega)).mono ?_
        rintro r w5 ⟨o, ho, rfl, hb5⟩
        go_wp2_with fail
        go_ret2
        rw [HF.out]
        exact ⟨o, ho, rfl, hB4.trans (hb5.mono hB4.size)⟩
  · have hgoal : addR a.toList b.toList = ([], chkR2 a.toList b.toList) := by unfold addR arith; rw [if_neg hc]
    rw [hgoal]
    have t1 : (chkR2 a.toList b.toList != 0) = true := by simp [hc]
    clear hc hgoal
    go_enter Tryz.func20, Tryz.ntmps20
    go_wp2_with fail
    refine (ref_pair a b _ h1 h2).mono ?_
    rintro e w1 ⟨rfl, hb1⟩
    go_wp2_with fail
    go_ret2
    exact ⟨_, toList_lit [], rfl, hb1⟩

theorem sub_all (n p m q : Int) : ([n * q, m * p, n * q - m * p, p * q] : List Int).all (fun z => decide (wid z ≤ 1024)) = (!anyLong [n * q, m * p, p * q] && !anyLong [n * q - m * p]) := by
  unfold anyLong
  simp only [List.all_cons, List.all_nil, Bool.and_true, Bool.not_not]
  generalize decide (wid (n * q) ≤ 1024) = A
  generalize decide (wid (m * p) ≤ 1024) = B
  generalize decide (wid (n * q - m * p) ≤ 1024) = C
  generalize decide (wid (p * q) ≤ 1024) = D
  cases A <;> cases B <;> cases C <;> cases D <;> rfl

set_option maxRecDepth 100000 in
set_option maxHeartbeats 2000000 in
theorem ref_SubR (a b : ByteArray) (w : World) (h1 : a.size ≤ 140737488300000) (h2 : b.size ≤ 140737488300000) :
    Calls Tryz.prog 22 #[.string a, .string b] w (OpS (arith (fun n p m q => [n * q, m * p, n * q - m * p, p * q]) (fun n p m q => n * q - m * p) (fun _ p _ q => p * q) a.toList b.toList) w) := by
  by_cases hc : chkR2 a.toList b.toList = 0
  · have ha : chkR a.toList = 0 := by unfold chkR2 at hc; split at hc <;> assumption
    have hb : chkR b.toList = 0 := by unfold chkR2 at hc; rw [if_pos ha] at hc; exact hc
    have ra := RR.of_chk ha
    have rb := RR.of_chk hb
    have hgoal : arith (fun n p m q => [n * q, m * p, n * q - m * p, p * q]) (fun n p m q => n * q - m * p) (fun _ p _ q => p * q) a.toList b.toList = opRes [numOf a.toList * denOf b.toList, numOf b.toList * denOf a.toList, numOf a.toList * denOf b.toList - numOf b.toList * denOf a.toList, denOf a.toList * denOf b.toList] (numOf a.toList * denOf b.toList - numOf b.toList * denOf a.toList) (denOf a.toList * denOf b.toList) := by unfold arith; rw [if_pos hc]
    rw [ra.numOf, ra.denOf, rb.numOf, rb.denOf] at hgoal
    generalize arith (fun n p m q => [n * q, m * p, n * q - m * p, p * q]) (fun n p m q => n * q - m * p) (fun _ p _ q => p * q) a.toList b.toList = res at *
    have HC := Lib.hid hc; clear hc ha hb
    generalize num (cutN a.toList) = n at *
    generalize num (cutD a.toList) = p at *
    generalize num (cutN b.toList) = m at *
    generalize num (cutD b.toList) = q at *
    have hD : p * q ≠ 0 := by have := Int.mul_pos ra.pos rb.pos; omega
    unfold opRes at hgoal
    rw [sub_all, if_neg hD] at hgoal
    have HG := Lib.hid hgoal; clear hgoal
    have u1 := wid_mul n q
    have u2 := wid_mul m p
    have u3 := wid_mul p q
    have u4 := wid_sub (n * q) (m * p)
    have v1 := ra.wn; have v2 := ra.wd; have v3 := rb.wn; have v4 := rb.wd
    have y1 : wid (n * q) ≤ 100000000 := by omega
    have y2 : wid (m * p) ≤ 100000000 := by omega
    have y3 : wid (n * q - m * p) ≤ 100000000 := by omega
    have y4 : wid (p * q) ≤ 100000000 := by omega
    clear u1 u2 u3 u4 v1 v2 v3 v4 hD
    have HZ3 : ∀ c1 c2 c3 : ByteArray, IsI c1 (n * q) → IsI c2 (m * p) → IsI c3 (p * q) → ∀ i (h : i < [c1, c2, c3].length) (h' : i < [n * q, m * p, p * q].length), IsI [c1, c2, c3][i] [n * q, m * p, p * q][i] ∧ wid [n * q, m * p, p * q][i] ≤ 100000000 := fun c1 c2 c3 i1 i2 i3 i h h' => match i, h with
      | 0, _ => ⟨i1, y1⟩
      | 1, _ => ⟨i2, y2⟩
      | 2, _ => ⟨i3, y4⟩
      | i + 3, h => absurd h (by simp)
    have HZ1 : ∀ c : ByteArray, IsI c (n * q - m * p) → ∀ i (h : i < [c].length) (h' : i < [n * q - m * p].length), IsI [c][i] [n * q - m * p][i] ∧ wid [n * q - m * p][i] ≤ 100000000 := fun c i1 i h h' => match i, h with
      | 0, _ => ⟨i1, y3⟩
      | i + 1, h => absurd h (by simp)
    rcases (show anyLong [n * q, m * p, p * q] = true ∨ anyLong [n * q, m * p, p * q] = false by cases anyLong [n * q, m * p, p * q] <;> simp) with g1 | g1
    · have HF : Hid (res = ([], 11)) := by show _ = _; rw [HG.out, g1]; rfl
      have G1 := Lib.hid g1; clear g1 HG
      go_enter Tryz.func22, Tryz.ntmps22
      go_wp2_with fail
      refine (ref_pair a b _ h1 h2).mono ?_
      rintro e w0 ⟨rfl, hb0⟩
      rw [HC.out]
      go_wp2_with fail
      refine (ref_crossed 1024 a b n p m q _ ra.rb rb.rb (by omega)).mono ?_
      rintro r w1 ⟨bb, ss, rfl, hlo, hB1, hrow, c1, c2, c3, c4, c5, rfl, i1, i2, i3, i4, i5⟩
      have hB := hb0.trans (hB1.mono hb0.size)
      obtain ⟨x0, x1, x2, x3, x4⟩ := row_cells hrow
      have hlt := hrow.1
      go_wp2_with fail
      have keyL : ∀ wx : World, wx.cell? ⟨bb, 0, none⟩ = some (.string c1) → wx.cell? ⟨bb, 1, none⟩ = some (.string c2) → wx.cell? ⟨bb, 2, none⟩ = some (.string c3) → Calls Tryz.prog 71 #[.slice (some ⟨bb, 0, none⟩) 3 5] wx fun r w' => r = .returned (.bool true) ∧ w' = wx := fun wx k0 k1 k2 => by
        have := ref_long bb 0 3 5 [c1, c2, c3] [n * q, m * p, p * q] wx rfl rfl (by omega) (HZ3 c1 c2 c3 i1 i2 i3) (row_three k0 k1 k2)
        rw [G1.out] at this
        exact this.mono fun _ _ h => ⟨h.1, h.2.symm⟩
      have KL := Lib.hid keyL; clear keyL
      go_quiet ((go_at_call 71; exact Calls.quiet_of_same (KL.out _ (by exact x0) (by exact x1) (by exact x2))))
      go_wp2_with fail
      go_ret2
      rw [HF.out]
      exact ⟨_, toList_lit [], rfl, ⟨hB.os, hB.tape, hB.output, hB.size, hB.block⟩⟩
    · rcases (show anyLong [n * q - m * p] = true ∨ anyLong [n * q - m * p] = false by cases anyLong [n * q - m * p] <;> simp) with g2 | g2
      · have HF : Hid (res = ([], 11)) := by show _ = _; rw [HG.out, g1, g2]; rfl
        have G1 := Lib.hid g1; have G2 := Lib.hid g2; clear g1 g2 HG
        go_enter Tryz.func22, Tryz.ntmps22
        go_wp2_with fail
        refine (ref_pair a b _ h1 h2).mono ?_
        rintro e w0 ⟨rfl, hb0⟩
        rw [HC.out]
        go_wp2_with fail
        refine (ref_crossed 1024 a b n p m q _ ra.rb rb.rb (by omega)).mono ?_
        rintro r w1 ⟨bb, ss, rfl, hlo, hB1, hrow, c1, c2, c3, c4, c5, rfl, i1, i2, i3, i4, i5⟩
        have hB := hb0.trans (hB1.mono hb0.size)
        obtain ⟨x0, x1, x2, x3, x4⟩ := row_cells hrow
        have hlt := hrow.1
        go_wp2_with fail
        go_region_held3 (fun w' => w'.cell? ⟨bb, 0, none⟩ = some (.string c1) ∧ w'.cell? ⟨bb, 1, none⟩ = some (.string c2) ∧ w'.cell? ⟨bb, 2, none⟩ = some (.string c3)) (go_keep)
          (first
            | (go_at_call 71; have hs1' := hs1; refine (ref_long _ 0 1 1 [s1] [n * q - m * p] _ rfl rfl (by omega) (HZ1 s1 hs1) (row_new _ _ _)).mono ?_; rintro e w4 ⟨rfl, rfl⟩; rw [G2.out])
            | (go_at_call 75; refine (ref_Minus c1 c2 _ _ _ i1 i2 y1 y2).mono ?_; rintro e w2 ⟨s1, hs1, rfl, hb2⟩; have z0 := (hb2.cell (p := ⟨bb, 0, none⟩) hlt).trans x0; have z1 := (hb2.cell (p := ⟨bb, 1, none⟩) hlt).trans x1; have z2 := (hb2.cell (p := ⟨bb, 2, none⟩) hlt).trans x2)
            | (go_at_call 71; refine (ref_long bb 0 3 5 [c1, c2, c3] [n * q, m * p, p * q] _ rfl rfl (by omega) (HZ3 c1 c2 c3 i1 i2 i3) (by exact row_three (by exact x0) (by exact x1) (by exact x2))).mono ?_; rintro e w3 ⟨rfl, rfl⟩; rw [G1.out]))
        have hb2' : Below w1.heap.size w1 w2 := ⟨hb2.os, hb2.tape, hb2.output, hb2.size, hb2.block⟩
        have hB2 := hB.trans (hb2'.mono hB.size)
        have hB4 : Below w.heap.size w (w2.alloc (.cells (strs [s1]).toArray 43)) := hB2.alloc hB2.size _
        generalize w2.alloc (.cells (strs [s1]).toArray 43) = w4 at *
        go_wp2_with fail
        go_ret2
        rw [HF.out]
        exact ⟨_, toList_lit [], rfl, hB4⟩
      · have HF : Hid (res = (rtext (lowN (n * q - m * p) (p * q)) (lowD (n * q - m * p) (p * q)), 0)) := by show _ = _; rw [HG.out, g1, g2]; rfl
        have G1 := Lib.hid g1; have G2 := Lib.hid g2; clear g1 g2 HG
        go_enter Tryz.func22, Tryz.ntmps22
        go_wp2_with fail
        refine (ref_pair a b _ h1 h2).mono ?_
        rintro e w0 ⟨rfl, hb0⟩
        rw [HC.out]
        go_wp2_with fail
        refine (ref_crossed 1024 a b n p m q _ ra.rb rb.rb (by omega)).mono ?_
        rintro r w1 ⟨bb, ss, rfl, hlo, hB1, hrow, c1, c2, c3, c4, c5, rfl, i1, i2, i3, i4, i5⟩
        have hB := hb0.trans (hB1.mono hb0.size)
        obtain ⟨x0, x1, x2, x3, x4⟩ := row_cells hrow
        have hlt := hrow.1
        go_wp2_with fail
        go_region_held3 (fun w' => w'.cell? ⟨bb, 0, none⟩ = some (.string c1) ∧ w'.cell? ⟨bb, 1, none⟩ = some (.string c2) ∧ w'.cell? ⟨bb, 2, none⟩ = some (.string c3)) (go_keep)
          (first
            | (go_at_call 71; have hs1' := hs1; refine (ref_long _ 0 1 1 [s1] [n * q - m * p] _ rfl rfl (by omega) (HZ1 s1 hs1) (row_new _ _ _)).mono ?_; rintro e w4 ⟨rfl, rfl⟩; rw [G2.out])
            | (go_at_call 75; refine (ref_Minus c1 c2 _ _ _ i1 i2 y1 y2).mono ?_; rintro e w2 ⟨s1, hs1, rfl, hb2⟩; have z0 := (hb2.cell (p := ⟨bb, 0, none⟩) hlt).trans x0; have z1 := (hb2.cell (p := ⟨bb, 1, none⟩) hlt).trans x1; have z2 := (hb2.cell (p := ⟨bb, 2, none⟩) hlt).trans x2)
            | (go_at_call 71; refine (ref_long bb 0 3 5 [c1, c2, c3] [n * q, m * p, p * q] _ rfl rfl (by omega) (HZ3 c1 c2 c3 i1 i2 i3) (by exact row_three (by exact x0) (by exact x1) (by exact x2))).mono ?_; rintro e w3 ⟨rfl, rfl⟩; rw [G1.out]))
        have hb2' : Below w1.heap.size w1 w2 := ⟨hb2.os, hb2.tape, hb2.output, hb2.size, hb2.block⟩
        have hB2 := hB.trans (hb2'.mono hB.size)
        have hB4 : Below w.heap.size w (w2.alloc (.cells (strs [s1]).toArray 43)) := hB2.alloc hB2.size _
        generalize w2.alloc (.cells (strs [s1]).toArray 43) = w4 at *
        go_wp2_with fail
        refine (ref_MinusR 1024 a b n p m q _ ra.rb rb.rb (by omega)).mono ?_
        rintro r w5 ⟨o, ho, rfl, hb5⟩
        go_wp2_with fail
        go_ret2
        rw [HF.out]
        exact ⟨o, ho, rfl, hB4.trans (hb5.mono hB4.size)⟩
  · have hgoal : arith (fun n p m q => [n * q, m * p, n * q - m * p, p * q]) (fun n p m q => n * q - m * p) (fun _ p _ q => p * q) a.toList b.toList = ([], chkR2 a.toList b.toList) := by unfold arith; rw [if_neg hc]
    rw [hgoal]
    have t1 : (chkR2 a.toList b.toList != 0) = true := by simp [hc]
    clear hc hgoal
    go_enter Tryz.func22, Tryz.ntmps22
    go_wp2_with fail
    refine (ref_pair a b _ h1 h2).mono ?_
    rintro e w1 ⟨rfl, hb1⟩
    go_wp2_with fail
    go_ret2
    exact ⟨_, toList_lit [], rfl, hb1⟩

theorem mul_all (n p m q : Int) : ([n * m, p * q] : List Int).all (fun z => decide (wid z ≤ 1024)) = !anyLong [p * q, n * m] := by
  unfold anyLong
  simp only [List.all_cons, List.all_nil, Bool.and_true, Bool.not_not]
  exact Bool.and_comm ..
theorem row_mid {w : World} {b : Nat} {c1 c2 c3 c4 c5 : ByteArray} (h : Row w b 0 (strs [c1, c2, c3, c4, c5])) : Row w b 2 (strs [c3, c4]) :=
  ⟨h.1, fun i hi => match i, hi with
    | 0, _ => h.2 2 (by simp [strs])
    | 1, _ => h.2 3 (by simp [strs])
    | i + 2, hi => absurd hi (by simp [strs])⟩

set_option maxRecDepth 100000 in
set_option maxHeartbeats 2000000 in
theorem ref_MulR (a b : ByteArray) (w : World) (h1 : a.size ≤ 140737488300000) (h2 : b.size ≤ 140737488300000) :
    Calls Tryz.prog 24 #[.string a, .string b] w (OpS (arith (fun n p m q => [n * m, p * q]) (fun n _ m _ => n * m) (fun _ p _ q => p * q) a.toList b.toList) w) := by
  by_cases hc : chkR2 a.toList b.toList = 0
  · have ha : chkR a.toList = 0 := by unfold chkR2 at hc; split at hc <;> assumption
    have hb : chkR b.toList = 0 := by unfold chkR2 at hc; rw [if_pos ha] at hc; exact hc
    have ra := RR.of_chk ha
    have rb := RR.of_chk hb
    have hgoal : arith (fun n p m q => [n * m, p * q]) (fun n _ m _ => n * m) (fun _ p _ q => p * q) a.toList b.toList = opRes [numOf a.toList * numOf b.toList, denOf a.toList * denOf b.toList] (numOf a.toList * numOf b.toList) (denOf a.toList * denOf b.toList) := by unfold arith; rw [if_pos hc]
    rw [ra.numOf, ra.denOf, rb.numOf, rb.denOf] at hgoal
    generalize arith (fun n p m q => [n * m, p * q]) (fun n _ m _ => n * m) (fun _ p _ q => p * q) a.toList b.toList = res at *
    have HC := Lib.hid hc; clear hc ha hb
    generalize num (cutN a.toList) = n at *
    generalize num (cutD a.toList) = p at *
    generalize num (cutN b.toList) = m at *
    generalize num (cutD b.toList) = q at *
    have hD : p * q ≠ 0 := by have := Int.mul_pos ra.pos rb.pos; omega
    unfold opRes at hgoal
    rw [mul_all, if_neg hD] at hgoal
    have HG := Lib.hid hgoal; clear hgoal
    have HD := Lib.hid hD; clear hD
    have u1 := wid_mul n m
    have u3 := wid_mul p q
    have v1 := ra.wn; have v2 := ra.wd; have v3 := rb.wn; have v4 := rb.wd
    have y1 : wid (n * m) ≤ 100000000 := by omega
    have y4 : wid (p * q) ≤ 100000000 := by omega
    clear u1 u3 v1 v2 v3 v4
    rcases (show anyLong [p * q, n * m] = true ∨ anyLong [p * q, n * m] = false by cases anyLong [p * q, n * m] <;> simp) with g1 | g1
    all_goals
      have G1 := Lib.hid g1
      have HF : Hid (res = if (!anyLong [p * q, n * m]) = true then (rtext (lowN (n * m) (p * q)) (lowD (n * m) (p * q)), 0) else ([], 11)) := HG
      rw [g1] at HF
      clear g1 HG
      go_enter Tryz.func24, Tryz.ntmps24
      go_wp2_with fail
      refine (ref_pair a b _ h1 h2).mono ?_
      rintro e w0 ⟨rfl, hb0⟩
      rw [HC.out]
      go_wp2_with fail
      refine (ref_crossed 1024 a b n p m q _ ra.rb rb.rb (by omega)).mono ?_
      rintro r w1 ⟨bb, ss, rfl, hlo, hB1, hrow, c1, c2, c3, c4, c5, rfl, i1, i2, i3, i4, i5⟩
      have hB := hb0.trans (hB1.mono hb0.size)
      go_wp2_with fail
      refine (ref_long bb 2 2 3 [c3, c4] [p * q, n * m] _ rfl rfl (by omega) (fun i h h' => match i, h with
        | 0, _ => ⟨i3, y4⟩
        | 1, _ => ⟨i4, y1⟩
        | i + 2, h => absurd h (by simp)) (row_mid hrow)).mono ?_
      rintro r w3 ⟨rfl, rfl⟩
      rw [G1.out]
      first
        | (go_wp2_with fail
           go_ret2
           rw [show res = ([], 11) from HF.out]
           exact ⟨_, toList_lit [], rfl, hB⟩)
        | (go_wp2_with fail
           refine (ref_TimesR 1024 a b n p m q _ ra.rb rb.rb (by omega) HD.out).mono ?_
           rintro r w5 ⟨o, ho, rfl, hb5⟩
           go_wp2_with fail
           go_ret2
           rw [show res = (rtext (lowN (n * m) (p * q)) (lowD (n * m) (p * q)), 0) from HF.out]
           exact ⟨o, ho, rfl, hB.trans (hb5.mono hB.size)⟩)
  · have hgoal : arith (fun n p m q => [n * m, p * q]) (fun n _ m _ => n * m) (fun _ p _ q => p * q) a.toList b.toList = ([], chkR2 a.toList b.toList) := by unfold arith; rw [if_neg hc]
    rw [hgoal]
    have t1 : (chkR2 a.toList b.toList != 0) = true := by simp [hc]
    clear hc hgoal
    go_enter Tryz.func24, Tryz.ntmps24
    go_wp2_with fail
    refine (ref_pair a b _ h1 h2).mono ?_
    rintro e w1 ⟨rfl, hb1⟩
    go_wp2_with fail
    go_ret2
    exact ⟨_, toList_lit [], rfl, hb1⟩

theorem div_all (n p m q : Int) : ([n * q, p * m] : List Int).all (fun z => decide (wid z ≤ 1024)) = !anyLong [n * q, p * m] := by
  unfold anyLong
  simp only [List.all_cons, List.all_nil, Bool.and_true, Bool.not_not]

set_option maxRecDepth 100000 in
set_option maxHeartbeats 2000000 in
theorem ref_DivR (a b : ByteArray) (w : World) (h1 : a.size ≤ 140737488300000) (h2 : b.size ≤ 140737488300000) :
    Calls Tryz.prog 26 #[.string a, .string b] w (OpS (divR a.toList b.toList) w) := by
  by_cases hc : chkR2 a.toList b.toList = 0
  · have ha : chkR a.toList = 0 := by unfold chkR2 at hc; split at hc <;> assumption
    have hb : chkR b.toList = 0 := by unfold chkR2 at hc; rw [if_pos ha] at hc; exact hc
    have ra := RR.of_chk ha
    have rb := RR.of_chk hb
    have hgoal : divR a.toList b.toList = if numOf b.toList = 0 then ([], 10) else opRes [numOf a.toList * denOf b.toList, denOf a.toList * numOf b.toList] (numOf a.toList * denOf b.toList) (denOf a.toList * numOf b.toList) := by unfold divR; rw [if_pos hc]
    rw [ra.numOf, ra.denOf, rb.numOf, rb.denOf] at hgoal
    generalize divR a.toList b.toList = res at *
    have HC := Lib.hid hc; clear hc ha hb
    generalize num (cutN a.toList) = n at *
    generalize num (cutD a.toList) = p at *
    generalize num (cutN b.toList) = m at *
    generalize num (cutD b.toList) = q at *
    have hz := div_zero_text rb
    by_cases hm : m = 0
    · rw [if_pos hm] at hgoal
      rw [decide_eq_true hm] at hz
      have HF := Lib.hid hgoal; clear hgoal hm
      go_enter Tryz.func26, Tryz.ntmps26
      go_wp2_with fail
      refine (ref_pair a b _ h1 h2).mono ?_
      rintro e w0 ⟨rfl, hb0⟩
      rw [HC.out]
      go_wp2_with fail
      go_ret2
      rw [HF.out]
      exact ⟨_, toList_lit [], rfl, hb0⟩
    · rw [if_neg hm] at hgoal
      rw [decide_eq_false hm] at hz
      have hD : p * m ≠ 0 := Int.mul_ne_zero (by have := ra.pos; omega) hm
      unfold opRes at hgoal
      rw [div_all, if_neg hD] at hgoal
      have HG := Lib.hid hgoal; clear hgoal hm
      have HD := Lib.hid hD; clear hD
      have u1 := wid_mul n q
      have u3 := wid_mul p m
      have v1 := ra.wn; have v2 := ra.wd; have v3 := rb.wn; have v4 := rb.wd
      have y1 : wid (n * q) ≤ 100000000 := by omega
      have y4 : wid (p * m) ≤ 100000000 := by omega
      clear u1 u3 v1 v2 v3 v4
      have HZ : ∀ c d : ByteArray, IsI c (n * q) → IsI d (p * m) → ∀ i (h : i < [c, d].length) (h' : i < [n * q, p * m].length), IsI [c, d][i] [n * q, p * m][i] ∧ wid [n * q, p * m][i] ≤ 100000000 := fun c d i1 i2 i h h' => match i, h with
        | 0, _ => ⟨i1, y1⟩
        | 1, _ => ⟨i2, y4⟩
        | i + 2, h => absurd h (by simp)
      rcases (show anyLong [n * q, p * m] = true ∨ anyLong [n * q, p * m] = false by cases anyLong [n * q, p * m] <;> simp) with g1 | g1
      all_goals
        have G1 := Lib.hid g1
        have HF : Hid (res = if (!anyLong [n * q, p * m]) = true then (rtext (lowN (n * q) (p * m)) (lowD (n * q) (p * m)), 0) else ([], 11)) := HG
        rw [g1] at HF
        clear g1 HG
        go_enter Tryz.func26, Tryz.ntmps26
        go_wp2_with fail
        refine (ref_pair a b _ h1 h2).mono ?_
        rintro e w0 ⟨rfl, hb0⟩
        rw [HC.out]
        go_wp2_with fail
        refine (ref_crossed 1024 a b n p m q _ ra.rb rb.rb (by omega)).mono ?_
        rintro r w1 ⟨bb, ss, rfl, hlo, hB1, hrow, c1, c2, c3, c4, c5, rfl, i1, i2, i3, i4, i5⟩
        have hB := hb0.trans (hB1.mono hb0.size)
        obtain ⟨x0, x1, x2, x3, x4⟩ := row_cells hrow
        have hlt := hrow.1
        go_wp2_with fail
        go_region_held3 (fun w' => w'.cell? ⟨bb, 0, none⟩ = some (.string c1) ∧ w'.cell? ⟨bb, 4, none⟩ = some (.string c5)) (go_keep)
          (first
            | (go_at_call 71; refine (ref_long w1.heap.size 0 2 2 [c1, c5] [n * q, p * m] _ rfl rfl (by omega) (HZ c1 c5 i1 i5) (by exact row_new w1 (strs [c1, c5]) 43)).mono ?_; rintro e w4 ⟨rfl, rfl⟩; rw [G1.out]))
        have hB4 : Below w.heap.size w (w1.alloc (.cells (strs [c1, c5]).toArray 43)) := hB.alloc hB.size _
        first
          | (go_wp2_with fail
             go_ret2
             rw [show res = ([], 11) from HF.out]
             exact ⟨_, toList_lit [], rfl, ⟨hB4.os, hB4.tape, hB4.output, hB4.size, hB4.block⟩⟩)
          | (go_wp2_with fail
             refine (ref_ByR 1024 a b n p m q _ ra.rb rb.rb (by omega) HD.out).mono ?_
             rintro r w5 ⟨o, ho, rfl, hb5⟩
             have hb5' : Below (w1.alloc (.cells (strs [c1, c5]).toArray 43)).heap.size (w1.alloc (.cells (strs [c1, c5]).toArray 43)) w5 := ⟨hb5.os, hb5.tape, hb5.output, hb5.size, hb5.block⟩
             go_wp2_with fail
             go_ret2
             rw [show res = (rtext (lowN (n * q) (p * m)) (lowD (n * q) (p * m)), 0) from HF.out]
             exact ⟨o, ho, rfl, hB4.trans (hb5'.mono hB4.size)⟩)
  · have hgoal : divR a.toList b.toList = ([], chkR2 a.toList b.toList) := by unfold divR; rw [if_neg hc]
    rw [hgoal]
    have t1 : (chkR2 a.toList b.toList != 0) = true := by simp [hc]
    clear hc hgoal
    go_enter Tryz.func26, Tryz.ntmps26
    go_wp2_with fail
    refine (ref_pair a b _ h1 h2).mono ?_
    rintro e w1 ⟨rfl, hb1⟩
    go_wp2_with fail
    go_ret2
    exact ⟨_, toList_lit [], rfl, hb1⟩

end Go.Proofs.YtgkiaonakiflbaaGreatDoor
