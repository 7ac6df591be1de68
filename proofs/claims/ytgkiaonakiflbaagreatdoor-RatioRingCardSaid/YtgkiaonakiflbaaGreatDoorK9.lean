/- K9: the texts La Ta, joined. -/
import Derived.Test.YtgkiaonakiflbaaGreatDoorK8
/- The laws' examples: the contract of awake. -/
namespace Go.Proofs.YtgkiaonakiflbaaGreatDoor
open Go.RowKit

theorem itoa_lit {l : Bytes} {z : Int} (h : isNum l = true) (hz : num l = z) : Lib.itoa z = l := by rw [← hz]; exact itoa_num h
theorem itoa_3 : Lib.itoa (3) = [51] := itoa_lit (by decide) (by unfold num dval dvalFrom; simp [digv_eq])
theorem itoa_5 : Lib.itoa (5) = [53] := itoa_lit (by decide) (by unfold num dval dvalFrom; simp [digv_eq])
theorem itoa_6 : Lib.itoa (6) = [54] := itoa_lit (by decide) (by unfold num dval dvalFrom; simp [digv_eq])
theorem itoa_7 : Lib.itoa (7) = [55] := itoa_lit (by decide) (by unfold num dval dvalFrom; simp [digv_eq])
theorem itoa_10 : Lib.itoa (10) = [49, 48] := itoa_lit (by decide) (by unfold num dval dvalFrom; simp [digv_eq])
theorem itoa_14 : Lib.itoa (14) = [49, 52] := itoa_lit (by decide) (by unfold num dval dvalFrom; simp [digv_eq])
theorem itoa_21 : Lib.itoa (21) = [50, 49] := itoa_lit (by decide) (by unfold num dval dvalFrom; simp [digv_eq])
theorem itoa_25 : Lib.itoa (25) = [50, 53] := itoa_lit (by decide) (by unfold num dval dvalFrom; simp [digv_eq])
theorem itoa_42 : Lib.itoa (42) = [52, 50] := itoa_lit (by decide) (by unfold num dval dvalFrom; simp [digv_eq])
theorem itoa_4 : Lib.itoa (4) = [52] := itoa_lit (by decide) (by unfold num dval dvalFrom; simp [digv_eq])
theorem itoa_m1 : Lib.itoa (-1) = [45, 49] := itoa_lit (by decide) (by unfold num dval dvalFrom; simp [body, digv_eq])
theorem itoa_m2 : Lib.itoa (-2) = [45, 50] := itoa_lit (by decide) (by unfold num dval dvalFrom; simp [body, digv_eq])
theorem itoa_m9 : Lib.itoa (-9) = [45, 57] := itoa_lit (by decide) (by unfold num dval dvalFrom; simp [body, digv_eq])
theorem itoa_m6 : Lib.itoa (-6) = [45, 54] := itoa_lit (by decide) (by unfold num dval dvalFrom; simp [body, digv_eq])
theorem wid_small {z : Int} (h : z.natAbs < 1000000000) : wid z ≤ 9 := wid_le_of (by omega) (by rw [show (10 : Nat) ^ 9 = 1000000000 by decide]; exact h)
theorem rr_frac {l : Bytes} {c : ByteArray} {n d : Int} (hc : c.toList = l) (hl : Lib.itoa n ++ 47 :: Lib.itoa d = l) (h1 : d ≠ 1) (h2 : 0 < d) (h3 : Int.gcd n d = 1) (h4 : n.natAbs < 1000000000) (h5 : d.natAbs < 1000000000) : RR c n d :=
  ⟨by rw [rtext_ne h1, hl]; exact hc, h2, h3, by have := wid_small h4; omega, by have := wid_small h5; omega⟩
theorem rr_int {l : Bytes} {c : ByteArray} {n : Int} (hc : c.toList = l) (hl : Lib.itoa n = l) (h4 : n.natAbs < 1000000000) : RR c n 1 :=
  ⟨by rw [rtext_one, hl]; exact hc, by omega, by simp, by have := wid_small h4; omega, by have := wid_one; omega⟩
theorem lit0 : RR ⟨#[49, 47, 49, 52]⟩ (1) 14 := (rr_frac (c := ⟨#[49, 47, 49, 52]⟩) (n := 1) (d := 14) (toList_lit [49, 47, 49, 52]) (by rw [itoa_one, itoa_14]; rfl) (by decide) (by decide) (by decide) (by decide) (by decide))
theorem lit1 : RR ⟨#[49, 47, 50, 49]⟩ (1) 21 := (rr_frac (c := ⟨#[49, 47, 50, 49]⟩) (n := 1) (d := 21) (toList_lit [49, 47, 50, 49]) (by rw [itoa_one, itoa_21]; rfl) (by decide) (by decide) (by decide) (by decide) (by decide))
theorem lit2 : RR ⟨#[51, 47, 53]⟩ (3) 5 := (rr_frac (c := ⟨#[51, 47, 53]⟩) (n := 3) (d := 5) (toList_lit [51, 47, 53]) (by rw [itoa_3, itoa_5]; rfl) (by decide) (by decide) (by decide) (by decide) (by decide))
theorem lit3 : RR ⟨#[50, 53, 47, 54]⟩ (25) 6 := (rr_frac (c := ⟨#[50, 53, 47, 54]⟩) (n := 25) (d := 6) (toList_lit [50, 53, 47, 54]) (by rw [itoa_25, itoa_6]; rfl) (by decide) (by decide) (by decide) (by decide) (by decide))
theorem lit4 : RR ⟨#[45, 57, 47, 49, 48]⟩ (-9) 10 := (rr_frac (c := ⟨#[45, 57, 47, 49, 48]⟩) (n := -9) (d := 10) (toList_lit [45, 57, 47, 49, 48]) (by rw [itoa_m9, itoa_10]; rfl) (by decide) (by decide) (by decide) (by decide) (by decide))
theorem litn_3 : RR ⟨#[51]⟩ (3) 1 := (rr_int (c := ⟨#[51]⟩) (n := 3) (toList_lit [51]) itoa_3 (by decide))
theorem litn_m2 : RR ⟨#[45, 50]⟩ (-2) 1 := (rr_int (c := ⟨#[45, 50]⟩) (n := -2) (toList_lit [45, 50]) itoa_m2 (by decide))
theorem litn_2 : RR ⟨#[50]⟩ (2) 1 := (rr_int (c := ⟨#[50]⟩) (n := 2) (toList_lit [50]) itoa_two (by decide))
theorem litn_1 : RR ⟨#[49]⟩ (1) 1 := (rr_int (c := ⟨#[49]⟩) (n := 1) (toList_lit [49]) itoa_one (by decide))
theorem litn_m1 : RR ⟨#[45, 49]⟩ (-1) 1 := (rr_int (c := ⟨#[45, 49]⟩) (n := -1) (toList_lit [45, 49]) itoa_m1 (by decide))
theorem litn_6 : RR ⟨#[54]⟩ (6) 1 := (rr_int (c := ⟨#[54]⟩) (n := 6) (toList_lit [54]) itoa_6 (by decide))

theorem arith_eval {l : Int → Int → Int → Int → List Int} {N D : Int → Int → Int → Int → Int} {a b : ByteArray} {n p m q : Int} (ha : RR a n p) (hb : RR b m q) (hl : ∀ z ∈ l n p m q, z.natAbs < 1000000000) (hD : D n p m q ≠ 0) :
    arith l N D a.toList b.toList = (rtext (lowN (N n p m q) (D n p m q)) (lowD (N n p m q) (D n p m q)), 0) := by
  unfold arith opRes
  rw [if_pos (chkR2_zero ha hb), ha.numOf, ha.denOf, hb.numOf, hb.denOf, if_pos (by rw [List.all_eq_true]; intro z hz; have := wid_small (hl z hz); exact decide_eq_true (by omega)), if_neg hD]

/-- An example's answer. -/
def Text (l : Bytes) (w : World) (r : Ending) (w' : World) : Prop := ∃ c, Is c l ∧ r = .returned (.tuple #[.string c, .int .i64 0]) ∧ Below w.heap.size w w'
theorem text_of {l : Bytes} {F : Bytes × Int} {w : World} {r : Ending} {w' : World} (h : OpS F w r w') (e : F = (l, 0)) : Text l w r w' := by
  obtain ⟨c, hc, hr, hB⟩ := h
  rw [e] at hc hr
  exact ⟨c, hc, hr, hB⟩
theorem rtext_lit {n d : Int} {N D : Int} {l : Bytes} (h1 : lowN N D = n) (h2 : lowD N D = d) (h3 : d ≠ 1) (h4 : Lib.itoa n ++ 47 :: Lib.itoa d = l) : (rtext (lowN N D) (lowD N D), (0 : Int)) = (l, 0) := by rw [h1, h2, rtext_ne h3, h4]

theorem aw_add (w : World) (hE : Env w) : Calls Tryz.prog 19 #[.string ⟨#[49, 47, 49, 52]⟩, .string ⟨#[49, 47, 50, 49]⟩] w (Text [53, 47, 52, 50] w) :=
  (ratio_Add _ _ w hE (by decide) (by decide)).mono fun _ _ h => text_of h.opS (by
    rw [arith_eval lit0 lit1 (by decide) (by decide)]
    exact rtext_lit (n := 5) (d := 42) (by decide) (by decide) (by decide) (by rw [itoa_5, itoa_42]; rfl))
theorem aw_sub (w : World) (hE : Env w) : Calls Tryz.prog 21 #[.string ⟨#[49, 47, 49, 52]⟩, .string ⟨#[49, 47, 50, 49]⟩] w (Text [49, 47, 52, 50] w) :=
  (ratio_Sub _ _ w hE (by decide) (by decide)).mono fun _ _ h => text_of h.opS (by
    rw [arith_eval lit0 lit1 (by decide) (by decide)]
    exact rtext_lit (n := 1) (d := 42) (by decide) (by decide) (by decide) (by rw [itoa_one, itoa_42]; rfl))
theorem aw_mul (w : World) (hE : Env w) : Calls Tryz.prog 23 #[.string ⟨#[51, 47, 53]⟩, .string ⟨#[50, 53, 47, 54]⟩] w (Text [53, 47, 50] w) :=
  (ratio_Mul _ _ w hE (by decide) (by decide)).mono fun _ _ h => text_of h.opS (by
    rw [arith_eval lit2 lit3 (by decide) (by decide)]
    exact rtext_lit (n := 5) (d := 2) (by decide) (by decide) (by decide) (by rw [itoa_5, itoa_two]; rfl))
theorem aw_div (w : World) (hE : Env w) : Calls Tryz.prog 25 #[.string ⟨#[51, 47, 53]⟩, .string ⟨#[45, 57, 47, 49, 48]⟩] w (Text [45, 50, 47, 51] w) :=
  (ratio_Div _ _ w hE (by decide) (by decide)).mono fun _ _ h => text_of h (by
    unfold divR
    rw [if_pos (chkR2_zero lit2 lit4), lit2.numOf, lit2.denOf, lit4.numOf, lit4.denOf, if_neg (by decide)]
    unfold opRes
    rw [if_pos (by rw [List.all_eq_true]; intro z hz; have := wid_small ((show ∀ z ∈ ([3 * 10, 5 * -9] : List Int), z.natAbs < 1000000000 by decide) z hz); exact decide_eq_true (by omega)), if_neg (by decide)]
    exact rtext_lit (n := -2) (d := 3) (by decide) (by decide) (by decide) (by rw [itoa_m2, itoa_3]; rfl))
theorem aw_floor (d : ByteArray) (w : World) (hE : Env w) (hd : Is d [45, 50, 47, 51]) : Calls Tryz.prog 45 #[.string d] w (Text [45, 49] w) :=
  (ratio_Floor _ w hE (by rw [hd.size]; decide)).mono fun _ _ h => text_of h (by
    have r : RR d (-2) 3 := rr_frac hd.out (by rw [itoa_m2, itoa_3]; rfl) (by decide) (by decide) (by decide) (by decide) (by decide)
    unfold floorR
    rw [if_pos r.chk, r.numOf, r.denOf, show (-2 : Int).fdiv 3 = -1 by decide, itoa_m1])

theorem short_int {c : ByteArray} {n : Int} (h : RR c n 1) (hn : n.natAbs < 1000000000) : shortB c.toList ∧ c.size ≤ 1000000 := by
  refine ⟨?_, by have := h.size; omega⟩
  unfold shortB
  rw [h.text, cutN_rtext, cutD_rtext]
  have h1 := itoa_length_le n
  have h2 := wid_small hn
  have h3 := itoa_length_le 1
  have h4 := wid_one
  omega
theorem first_three {a b c : ByteArray} {n m k p q r : Int} (ha : RR a n p) (hb : RR b m q) (hc : RR c k r) : firstErr chkR [a, b, c] = 0 := by
  unfold firstErr; rw [if_pos ha.chk]; unfold firstErr; rw [if_pos hb.chk]; unfold firstErr; rw [if_pos hc.chk]; rfl
theorem aw_root (w : World) (hE : Env w) : Calls Tryz.prog 14 #[.string ⟨#[51]⟩, .string ⟨#[45, 50]⟩, .string ⟨#[50]⟩] w (OpI (1, 0) w) := by
  have key := ratio_SignRoot ⟨#[51]⟩ ⟨#[45, 50]⟩ ⟨#[50]⟩ w hE (by
    intro s hs
    simp only [List.mem_cons, List.not_mem_nil, or_false] at hs
    rcases hs with rfl | rfl | rfl
    · exact short_int litn_3 (by decide)
    · exact short_int litn_m2 (by decide)
    · exact short_int litn_2 (by decide))
  rw [show signRootR ⟨#[51]⟩ ⟨#[45, 50]⟩ ⟨#[50]⟩ = (1, 0) by
    unfold signRootR
    rw [if_pos (first_three litn_3 litn_m2 litn_2), litn_3.numOf, litn_3.denOf, litn_m2.numOf, litn_m2.denOf, litn_2.numOf, litn_2.denOf]
    decide] at key
  exact key
theorem aw_roots (w : World) (hE : Env w) : Calls Tryz.prog 16 #[.string ⟨#[49]⟩, .string ⟨#[49]⟩, .string ⟨#[50]⟩, .string ⟨#[45, 49]⟩, .string ⟨#[54]⟩] w (OpI (-1, 0) w) := by
  have key := ratio_SignRoots ⟨#[49]⟩ ⟨#[49]⟩ ⟨#[50]⟩ ⟨#[45, 49]⟩ ⟨#[54]⟩ w hE (by
    intro s hs
    simp only [List.mem_cons, List.not_mem_nil, or_false] at hs
    rcases hs with rfl | rfl | rfl | rfl | rfl
    · exact short_int litn_1 (by decide)
    · exact short_int litn_1 (by decide)
    · exact short_int litn_2 (by decide)
    · exact short_int litn_m1 (by decide)
    · exact short_int litn_6 (by decide))
  rw [show signRootsR ⟨#[49]⟩ ⟨#[49]⟩ ⟨#[50]⟩ ⟨#[45, 49]⟩ ⟨#[54]⟩ = (-1, 0) by
    unfold signRootsR
    rw [if_pos (by unfold firstErr; rw [if_pos litn_1.chk]; unfold firstErr; rw [if_pos litn_1.chk]; unfold firstErr; rw [if_pos litn_2.chk]; unfold firstErr; rw [if_pos litn_m1.chk]; unfold firstErr; rw [if_pos litn_6.chk]; rfl), litn_1.numOf, litn_1.denOf, litn_2.numOf, litn_2.denOf, litn_m1.numOf, litn_m1.denOf, litn_6.numOf, litn_6.denOf]
    decide] at key
  exact key
theorem aw_check (w : World) (hE : Env w) : Calls Tryz.prog 47 #[.string ⟨#[54, 47, 52]⟩] w fun r w' => r = .returned (.int .i64 3) ∧ Below w.heap.size w w' := by
  have e : (⟨#[54, 47, 52]⟩ : ByteArray).toList = rtext 6 4 := by rw [rtext_ne (by decide), itoa_6, itoa_4]; exact toList_lit _
  have h : chkR (⟨#[54, 47, 52]⟩ : ByteArray).toList = 3 := by
    rw [e]
    unfold chkR
    have w6 : wid 6 ≤ 9 := wid_small (by decide)
    have w4 : wid 4 ≤ 9 := wid_small (by decide)
    rw [cutN_rtext, cutD_rtext, chk_le 6 (by omega), chk_le 4 (by omega), cutW_rtext, num_itoa, num_itoa]
    decide
  have key := ratio_Check ⟨#[54, 47, 52]⟩ w hE (by decide)
  rw [h] at key
  exact key

set_option maxRecDepth 100000 in
set_option maxHeartbeats 1000000 in
/-- The examples of the chapter hold. -/
theorem law_awake (w : World) (hE : Env w) : Calls Tryz.prog 13 #[] w fun r w' => r = .returned (.bool true) ∧ Below w.heap.size w w' := by
  go_enter Tryz.func13, Tryz.ntmps13
  go_wp2_with fail
  refine (aw_add _ hE).mono ?_
  rintro r w1 ⟨c1, h1, rfl, hb1⟩
  have hE1 := hE.below hb1
  go_wp2_with fail
  refine (aw_sub _ hE1).mono ?_
  rintro r w2 ⟨c2, h2, rfl, hb2⟩
  have hB2 := hb1.trans (hb2.mono hb1.size)
  have hE2 := hE.below hB2
  go_wp2_with fail
  refine (aw_mul _ hE2).mono ?_
  rintro r w3 ⟨c3, h3, rfl, hb3⟩
  have hB3 := hB2.trans (hb3.mono hB2.size)
  have hE3 := hE.below hB3
  go_wp2_with fail
  refine (aw_div _ hE3).mono ?_
  rintro r w4 ⟨c4, h4, rfl, hb4⟩
  have hB4 := hB3.trans (hb4.mono hB3.size)
  have hE4 := hE.below hB4
  go_wp2_with fail
  refine (aw_floor c4 _ hE4 h4).mono ?_
  rintro r w5 ⟨c5, h5, rfl, hb5⟩
  have hB5 := hB4.trans (hb5.mono hB4.size)
  have hE5 := hE.below hB5
  go_wp2_with fail
  refine (aw_root _ hE5).mono ?_
  rintro r w6 ⟨rfl, hb6⟩
  have hB6 := hB5.trans (hb6.mono hB5.size)
  have hE6 := hE.below hB6
  go_wp2_with fail
  refine (aw_roots _ hE6).mono ?_
  rintro r w7 ⟨rfl, hb7⟩
  have hB7 := hB6.trans (hb7.mono hB6.size)
  have hE7 := hE.below hB7
  have g1 : (c1.toList == [53, 47, 52, 50]) = true := by rw [h1.out]; rfl
  have g2 : (c2.toList == [49, 47, 52, 50]) = true := by rw [h2.out]; rfl
  have g3 : (c3.toList == [53, 47, 50]) = true := by rw [h3.out]; rfl
  have g4 : (c4.toList == [45, 50, 47, 51]) = true := by rw [h4.out]; rfl
  have g5 : (c5.toList == [45, 49]) = true := by rw [h5.out]; rfl
  go_wp2_with fail
  refine (aw_check _ hE7).mono ?_
  rintro r w8 ⟨rfl, hb8⟩
  have hB8 := hB7.trans (hb8.mono hB7.size)
  have hE8 := hE.below hB8
  go_wp2_with fail
  refine (ratio_Whole 7 (by omega) (by omega) _ hE8).mono ?_
  rintro r w9 ⟨c9, h9, rfl, hb9⟩
  have hB9 := hB8.trans (hb9.mono hB8.size)
  have g9 : (c9.toList == [55]) = true := by rw [h9.out, itoa_7]; rfl
  go_wp2_with fail
  go_ret
  exact ⟨rfl, hB9⟩

end Go.Proofs.YtgkiaonakiflbaaGreatDoor

/- The contracts of metrolabref02's Parts, Sign, Neg, Floor, Few, and ratio's Parts as a function. -/
namespace Go.Proofs.YtgkiaonakiflbaaGreatDoor
open Go.RowKit

/-- Two texts and an error. -/
def OpP (F : Bytes × Bytes × Int) (w : World) (r : Ending) (w' : World) : Prop := ∃ c d, Is c F.1 ∧ Is d F.2.1 ∧ r = .returned (.tuple #[.string c, .string d, .int .i64 F.2.2]) ∧ Below w.heap.size w w'
def partsR (a : Bytes) : Bytes × Bytes × Int := if chkR a = 0 then (Lib.itoa (numOf a), Lib.itoa (denOf a), 0) else ([], [], chkR a)

theorem ratio_Parts (a : ByteArray) (w : World) (hE : Env w) (h1 : a.size < 4294967281) :
    Calls Tryz.prog 39 #[.string a] w (OpP (partsR a.toList) w) := by
  by_cases hc : chkR a.toList = 0
  · have ra := RR.of_chk hc
    have hgoal : partsR a.toList = (Lib.itoa (numOf a.toList), Lib.itoa (denOf a.toList), 0) := by unfold partsR; rw [if_pos hc]
    rw [ra.numOf, ra.denOf] at hgoal
    rw [hgoal]
    refine (parts_right a _ _ w hE ra).mono ?_
    rintro r w' ⟨c, d, hc, hd, rfl, hb⟩
    exact ⟨c, d, hc.is, hd.is, rfl, hb⟩
  · have hgoal : partsR a.toList = ([], [], chkR a.toList) := by unfold partsR; rw [if_neg hc]
    rw [hgoal]
    refine (parts_err a w hE h1 hc).mono ?_
    rintro r w' ⟨rfl, hb⟩
    exact ⟨_, _, toList_lit [], toList_lit [], rfl, hb⟩

theorem ref_Parts (a : ByteArray) (w : World) (h1 : a.size ≤ 140737488300000) :
    Calls Tryz.prog 40 #[.string a] w (OpP (partsR a.toList) w) := by
  by_cases hc : chkR a.toList = 0
  · have ra := RR.of_chk hc
    have hgoal : partsR a.toList = (Lib.itoa (numOf a.toList), Lib.itoa (denOf a.toList), 0) := by unfold partsR; rw [if_pos hc]
    rw [ra.numOf, ra.denOf] at hgoal
    rw [hgoal]
    have HC := Lib.hid hc; clear hc hgoal
    go_enter Tryz.func40, Tryz.ntmps40
    go_wp2_with fail
    refine (ref_CheckR a _ h1).mono ?_
    rintro r w1 ⟨rfl, hb⟩
    rw [HC.out]
    go_wp2_with fail
    refine (split_right 1024 a _ _ _ ra.rb (by omega)).mono ?_
    rintro r w2 ⟨c, d, hc, hd, rfl, k, rfl⟩
    go_wp2_with fail
    go_ret3
    exact ⟨c, d, hc, hd, rfl, below_drewN hb k⟩
  · have hgoal : partsR a.toList = ([], [], chkR a.toList) := by unfold partsR; rw [if_neg hc]
    rw [hgoal]
    have t1 : (chkR a.toList != 0) = true := by simp [hc]
    clear hgoal hc
    go_enter Tryz.func40, Tryz.ntmps40
    go_wp2_with fail
    refine (ref_CheckR a _ h1).mono ?_
    rintro r w1 ⟨rfl, hb⟩
    go_wp2_with fail
    go_ret3
    exact ⟨_, _, toList_lit [], toList_lit [], rfl, hb⟩

theorem ref_SignR (a : ByteArray) (w : World) (h1 : a.size ≤ 140737488300000) :
    Calls Tryz.prog 42 #[.string a] w (OpI (signR a.toList) w) := by
  by_cases hc : chkR a.toList = 0
  · have ra := RR.of_chk hc
    have hgoal : signR a.toList = (sgn (numOf a.toList), 0) := by unfold signR; rw [if_pos hc]
    rw [ra.numOf] at hgoal
    rw [hgoal]
    have HC := Lib.hid hc; clear hc hgoal
    go_enter Tryz.func42, Tryz.ntmps42
    go_wp2_with fail
    refine (ref_CheckR a _ h1).mono ?_
    rintro r w1 ⟨rfl, hb⟩
    rw [HC.out]
    go_wp2_with fail
    refine (ref_Signum 1024 a _ _ _ ra.rb (by omega)).mono ?_
    rintro r w2 ⟨rfl, hb2⟩
    go_wp2_with fail
    go_ret2
    exact ⟨rfl, hb.trans (hb2.mono hb.size)⟩
  · have hgoal : signR a.toList = (0, chkR a.toList) := by unfold signR; rw [if_neg hc]
    rw [hgoal]
    have t1 : (chkR a.toList != 0) = true := by simp [hc]
    clear hgoal hc
    go_enter Tryz.func42, Tryz.ntmps42
    go_wp2_with fail
    refine (ref_CheckR a _ h1).mono ?_
    rintro r w1 ⟨rfl, hb⟩
    go_wp2_with fail
    go_ret2
    exact ⟨rfl, hb⟩

/-- A quotient in lowest terms stays. -/
theorem low_self {n d : Int} (hd : 0 < d) (hc : Int.gcd n d = 1) : lowN n d = n ∧ lowD n d = d := by
  have hg : gS n d = 1 := by unfold gS; rw [if_neg (by omega), hc]; rfl
  unfold lowN lowD
  rw [hg]
  exact ⟨Int.fdiv_one n, Int.fdiv_one d⟩
theorem zero_rb : RB 1024 ⟨#[48]⟩ 0 1 := zero_right.rb
theorem ref_TurnedR (K : Nat) (a : ByteArray) (n p : Int) (w : World) (ha : RB K a n p) (hK : K ≤ 1000000) (h0 : 1 ≤ K) :
    Calls Tryz.prog 94 #[.string a] w (NewRat (-n) p w) := by
  have hz : RB K ⟨#[48]⟩ 0 1 := ⟨zero_rb.text, zero_rb.pos, zero_rb.cop, by have := wid_zero; omega, by have := wid_one; omega⟩
  have e := low_self (n := -n) ha.pos (by unfold Int.gcd; rw [Int.natAbs_neg]; exact ha.cop)
  have key := fun wx => ref_MinusR K ⟨#[48]⟩ a 0 1 n p wx hz ha hK
  rw [show (0 : Int) * p - n * 1 = -n by omega, Int.one_mul, e.1, e.2] at key
  have KEY := Lib.hid key; clear key e
  go_enter Tryz.func94, Tryz.ntmps94
  go_wp2_with fail
  refine (KEY.out _).mono ?_
  rintro r w1 ⟨c, hc, rfl, hb⟩
  go_wp2_with fail
  go_ret
  exact ⟨c, hc, rfl, hb⟩

theorem ref_NegR (a : ByteArray) (w : World) (h1 : a.size ≤ 140737488300000) :
    Calls Tryz.prog 44 #[.string a] w (OpS (negR a.toList) w) := by
  by_cases hc : chkR a.toList = 0
  · have ra := RR.of_chk hc
    have hgoal : negR a.toList = (rtext (-(numOf a.toList)) (denOf a.toList), 0) := by unfold negR; rw [if_pos hc]
    rw [ra.numOf, ra.denOf] at hgoal
    rw [hgoal]
    have HC := Lib.hid hc; clear hc hgoal
    go_enter Tryz.func44, Tryz.ntmps44
    go_wp2_with fail
    refine (ref_CheckR a _ h1).mono ?_
    rintro r w1 ⟨rfl, hb⟩
    rw [HC.out]
    go_wp2_with fail
    refine (ref_TurnedR 1024 a _ _ _ ra.rb (by omega) (by omega)).mono ?_
    rintro r w2 ⟨c, hc, rfl, hb2⟩
    go_wp2_with fail
    go_ret2
    exact ⟨c, hc, rfl, hb.trans (hb2.mono hb.size)⟩
  · have hgoal : negR a.toList = ([], chkR a.toList) := by unfold negR; rw [if_neg hc]
    rw [hgoal]
    have t1 : (chkR a.toList != 0) = true := by simp [hc]
    clear hgoal hc
    go_enter Tryz.func44, Tryz.ntmps44
    go_wp2_with fail
    refine (ref_CheckR a _ h1).mono ?_
    rintro r w1 ⟨rfl, hb⟩
    go_wp2_with fail
    go_ret2
    exact ⟨_, toList_lit [], rfl, hb⟩

theorem ref_Down (a : ByteArray) (n p : Int) (w : World) (ha : RR a n p) :
    Calls Tryz.prog 96 #[.string a] w fun r w' => ∃ c, IsI c (n.fdiv p) ∧ r = .returned (.string c) ∧ Below w.heap.size w w' := by
  have w1 := ha.wn
  have w2 := ha.wd
  have hp : Hid (p ≠ 0) := show p ≠ 0 by have := ha.pos; omega
  go_enter Tryz.func96, Tryz.ntmps96
  go_wp2_with fail
  refine (split_right 1024 a n p _ ha.rb (by omega)).mono ?_
  rintro r w' ⟨c, d, hc, hd, rfl, k, rfl⟩
  have hB : Below w.heap.size w (w.drewN k) := below_drewN (Below.refl _ _) k
  go_wp2_with fail
  refine (ref_Parted c d n p _ hc hd hp.out (by omega) (by omega)).mono ?_
  rintro r w2 ⟨q, x, hq, hx, rfl, hb2⟩
  go_wp2_with fail
  go_ret
  exact ⟨q, hq, rfl, hB.trans (hb2.mono hB.size)⟩

theorem ref_FloorR (a : ByteArray) (w : World) (h1 : a.size ≤ 140737488300000) :
    Calls Tryz.prog 46 #[.string a] w (OpS (floorR a.toList) w) := by
  by_cases hc : chkR a.toList = 0
  · have ra := RR.of_chk hc
    have hgoal : floorR a.toList = (Lib.itoa ((numOf a.toList).fdiv (denOf a.toList)), 0) := by unfold floorR; rw [if_pos hc]
    rw [ra.numOf, ra.denOf] at hgoal
    rw [hgoal]
    have HC := Lib.hid hc; clear hc hgoal
    go_enter Tryz.func46, Tryz.ntmps46
    go_wp2_with fail
    refine (ref_CheckR a _ h1).mono ?_
    rintro r w1 ⟨rfl, hb⟩
    rw [HC.out]
    go_wp2_with fail
    refine (ref_Down a _ _ _ ra).mono ?_
    rintro r w2 ⟨c, hc, rfl, hb2⟩
    go_wp2_with fail
    go_ret2
    exact ⟨c, hc, rfl, hb.trans (hb2.mono hb.size)⟩
  · have hgoal : floorR a.toList = ([], chkR a.toList) := by unfold floorR; rw [if_neg hc]
    rw [hgoal]
    have t1 : (chkR a.toList != 0) = true := by simp [hc]
    clear hgoal hc
    go_enter Tryz.func46, Tryz.ntmps46
    go_wp2_with fail
    refine (ref_CheckR a _ h1).mono ?_
    rintro r w1 ⟨rfl, hb⟩
    go_wp2_with fail
    go_ret2
    exact ⟨_, toList_lit [], rfl, hb⟩

set_option maxRecDepth 100000 in
set_option maxHeartbeats 1000000 in
theorem ref_Few (a : ByteArray) (w : World) (hs : a.size ≤ 140737488351232) :
    Calls Tryz.prog 18 #[.string a] w fun r w' => r = .returned (.bool (fewb a.toList)) ∧ Below w.heap.size w w' := by
  have ln := cutN_le a.toList
  have ld := cutD_le a.toList
  have la := toList_length a
  rw [la] at ln ld
  obtain ⟨x, hx⟩ : ∃ x, x = (cutN a.toList).length := ⟨_, rfl⟩
  obtain ⟨y, hy⟩ : ∃ y, y = (cutD a.toList).length := ⟨_, rfl⟩
  have hF : fewb a.toList = ((decide (x ≤ 120) && decide (y ≤ 120)) || (decide (a.size < 5000) && (decide (1025 < x) || decide (1025 < y)))) := by unfold fewb; rw [hx, hy, la]
  rw [← hx] at ln
  rw [← hy] at ld
  have HF := Lib.hid hF; clear hF
  have HX := Lib.hid hx; have HY := Lib.hid hy
  clear hx hy la
  have KF : ∀ (c : ByteArray) (n : Nat) (wx : World), c.size = n → n ≤ 140737488351232 → Calls Tryz.prog 29 #[.string c] wx fun r w' => r = .returned (.bool (decide (n ≤ 120))) ∧ wx = w' := fun c n wx e h => by
    subst e; exact ref_FewInt c wx h
  have KEY := Lib.hid KF; clear KF
  have zx : x ≤ 140737488351232 := by omega
  have zy : y ≤ 140737488351232 := by
    have := HY.out
    by_cases h0 : 0 ≤ slashI a.toList
    · have e := congrArg List.length (cut_join a.toList h0)
      rw [List.length_append, List.length_cons, toList_length] at e
      omega
    · have e : cutD a.toList = [49] := by unfold cutD; rw [if_neg h0]
      rw [e] at this; rw [this]; decide
  clear ln ld
  rcases (show decide (x ≤ 120) = true ∨ decide (x ≤ 120) = false by cases decide (x ≤ 120) <;> simp) with h1 | h1
  all_goals rcases (show decide (y ≤ 120) = true ∨ decide (y ≤ 120) = false by cases decide (y ≤ 120) <;> simp) with h2 | h2
  all_goals rcases (show decide (a.size < 5000) = true ∨ decide (a.size < 5000) = false by cases decide (a.size < 5000) <;> simp) with h3 | h3
  all_goals rcases (show decide (1025 < x) = true ∨ decide (1025 < x) = false by cases decide (1025 < x) <;> simp) with h4 | h4
  all_goals rcases (show decide (1025 < y) = true ∨ decide (1025 < y) = false by cases decide (1025 < y) <;> simp) with h5 | h5
  all_goals
    have HG : Hid (fewb a.toList = ((decide (x ≤ 120) && decide (y ≤ 120)) || (decide (a.size < 5000) && (decide (1025 < x) || decide (1025 < y))))) := HF
    rw [h1, h2, h3, h4, h5] at HG
    have g3 : decide ((a.size : Int) < 5000) = decide (a.size < 5000) := decide_eq_decide.2 (by omega)
    rw [h3] at g3
    have H1 := Lib.hid h1; have H2 := Lib.hid h2
    clear h1 h2 h3
    go_enter Tryz.func18, Tryz.ntmps18
    go_wp2_with fail
    refine (ref_Split a _ hs).mono ?_
    rintro r w' ⟨c, d, hc, hd, rfl, k, rfl⟩
    have sc := hc.size
    rw [← HX.out] at sc
    have sd := hd.size
    rw [← HY.out] at sd
    have g4 : decide (1025 < (c.size : Int)) = decide (1025 < x) := decide_eq_decide.2 (by omega)
    have g5 : decide (1025 < (d.size : Int)) = decide (1025 < y) := decide_eq_decide.2 (by omega)
    rw [h4] at g4
    rw [h5] at g5
    have SC := Lib.hid sc; have SD := Lib.hid sd
    clear sc sd h4 h5
    go_wp2_with fail
    refine (KEY.out c x _ SC.out zx).mono ?_
    rintro r w' ⟨rfl, rfl⟩
    rw [H1.out]
    first
      | (go_wp2_with fail
         go_ret
         exact ⟨ret_bool HG.out.symm, below_drewN (Below.refl _ _) _⟩)
      | (go_wp2_with fail
         refine (KEY.out d y _ SD.out zy).mono ?_
         rintro r w' ⟨rfl, rfl⟩
         rw [H2.out]
         go_wp2_with fail
         go_ret
         exact ⟨ret_bool HG.out.symm, below_drewN (Below.refl _ _) _⟩)

end Go.Proofs.YtgkiaonakiflbaaGreatDoor
