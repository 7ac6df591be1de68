/- The law RatioMakes: the walk. -/
import Derived.Test.YtgkiaonakiflbaaGreatDoorLc
import Derived.Test.YtgkiaonakiflbaaGreatDoorTg
namespace Go.Proofs.YtgkiaonakiflbaaGreatDoor
open Go.RowKit

theorem small_ok {s : Bytes} (h : (smallR s).2 = 0) : Lib.itoa (smallR s).1 = s ∧ -9223372036854775808 ≤ (smallR s).1 ∧ (smallR s).1 ≤ 9223372036854775807 := by
  unfold smallR at *
  by_cases hc : chk s = 0
  · rw [if_pos hc] at h ⊢
    by_cases hb : 9223372036854775807 < num s ∨ num s < -9223372036854775808
    · rw [if_pos hb] at h; exact absurd h (by decide)
    · rw [if_neg hb]
      exact ⟨itoa_num (chk_isNum hc).1, by omega, by omega⟩
  · rw [if_neg hc] at h; exact absurd h hc

set_option maxRecDepth 100000 in
set_option maxHeartbeats 4000000 in
theorem law_makes (a b : ByteArray) (w : World) (hE : Env w) (ha : a.size ≤ 140737488351232) (hb : b.size ≤ 140737488351232) :
    Calls Tryz.prog 5 #[.string a, .string b] w fun r w' => r = .returned (.bool true) ∧ Below w.heap.size w w' := by
  by_cases hA : a.size ≤ 120
  · have GA : Hid (decide (a.size ≤ 120) = true) := decide_eq_true hA
    by_cases hB : b.size ≤ 120
    · have GB : Hid (decide (b.size ≤ 120) = true) := decide_eq_true hB
      have M1 := Lib.hid (fun wx (h : Env wx) => ratio_Make a b wx h (by omega) (by omega))
      have M2 := Lib.hid (fun wx => ref_Make a b wx (by omega) (by omega))
      have S1 := Lib.hid (fun wx => ref_Small a wx (by omega))
      have S2 := Lib.hid (fun wx => ref_Small b wx (by omega))
      by_cases hg : (smallR a.toList).2 = 0
      · by_cases hh : (smallR b.toList).2 = 0
        · obtain ⟨e1, l1, u1⟩ := small_ok hg
          obtain ⟨e2, l2, u2⟩ := small_ok hh
          have OF := fun wx (h : Env wx) => ratio_Of (smallR a.toList).1 (smallR b.toList).1 l1 u1 l2 u2 wx h
          rw [e1, e2] at OF
          have W1 := Lib.hid (fun wx (h : Env wx) => ratio_Whole (smallR a.toList).1 l1 u1 wx h)
          have W2 := Lib.hid (fun wx => ref_WholeR (smallR a.toList).1 l1 u1 wx)
          replace OF := Lib.hid OF
          clear e1 e2 l1 u1 l2 u2
          generalize makeR a.toList b.toList = F at *
          generalize smallR a.toList = G at *
          generalize smallR b.toList = G' at *
          obtain ⟨f1, f2⟩ := F
          obtain ⟨n1, n2⟩ := G
          obtain ⟨m1, m2⟩ := G'
          obtain rfl : n2 = 0 := hg
          obtain rfl : m2 = 0 := hh
          go_enter Tryz.func5, Tryz.ntmps5
          go_wp2_with fail
          refine (ref_FewInt a _ ha).mono ?_
          rintro r w' ⟨rfl, rfl⟩
          rw [GA.out]
          go_wp2_with fail
          refine (ref_FewInt b _ hb).mono ?_
          rintro r w' ⟨rfl, rfl⟩
          rw [GB.out]
          go_wp2_with fail
          refine (M1.out _ hE).mono ?_
          rintro r w1 ⟨x1, hx1, rfl, hb1⟩
          have hE1 := hE.below hb1
          go_wp2_with fail
          refine (M2.out _).mono ?_
          rintro r w2 ⟨y1, hy1, rfl, hb2⟩
          have hB2 := hb1.trans (hb2.mono hb1.size)
          have hE2 := hE.below hB2
          have q1 := same_text hx1 hy1
          go_wp2_with fail
          refine (S1.out _).mono ?_
          rintro r w3 ⟨rfl, hb3⟩
          have hB3 := hB2.trans (hb3.mono hB2.size)
          go_wp2_with fail
          refine (S2.out _).mono ?_
          rintro r w4 ⟨rfl, hb4⟩
          have hB4 := hB3.trans (hb4.mono hB3.size)
          have hE4 := hE.below hB4
          go_wp2_with fail
          refine (OF.out _ hE4).mono ?_
          rintro r w5 ⟨z1, hz1, rfl, hb5⟩
          have hB5 := hB4.trans (hb5.mono hB4.size)
          have hE5 := hE.below hB5
          have q2 := same_text hz1 hy1
          go_wp2_with fail
          refine (W1.out _ hE5).mono ?_
          rintro r w6 ⟨t1, ht1, rfl, hb6⟩
          have hB6 := hB5.trans (hb6.mono hB5.size)
          go_wp2_with fail
          refine (W2.out _).mono ?_
          rintro r w7 ⟨t2, ht2, rfl, hb7⟩
          have hB7 := hB6.trans (hb7.mono hB6.size)
          have hE7 := hE.below hB7
          have q3 := same_text ht1.out ht2.out
          go_wp2_with fail
          refine (law_awake _ hE7).mono ?_
          rintro r w8 ⟨rfl, hb8⟩
          go_wp2_with fail
          go_ret
          exact ⟨rfl, hB7.trans (hb8.mono hB7.size)⟩
        · generalize makeR a.toList b.toList = F at *
          generalize smallR a.toList = G at *
          generalize smallR b.toList = G' at *
          obtain ⟨f1, f2⟩ := F
          obtain ⟨n1, n2⟩ := G
          obtain ⟨m1, m2⟩ := G'
          obtain rfl : n2 = 0 := hg
          have g9 : (m2 != 0) = true := by
            have h : m2 ≠ 0 := hh
            simp [h]
          clear hh
          go_enter Tryz.func5, Tryz.ntmps5
          go_wp2_with fail
          refine (ref_FewInt a _ ha).mono ?_
          rintro r w' ⟨rfl, rfl⟩
          rw [GA.out]
          go_wp2_with fail
          refine (ref_FewInt b _ hb).mono ?_
          rintro r w' ⟨rfl, rfl⟩
          rw [GB.out]
          go_wp2_with fail
          refine (M1.out _ hE).mono ?_
          rintro r w1 ⟨x1, hx1, rfl, hb1⟩
          have hE1 := hE.below hb1
          go_wp2_with fail
          refine (M2.out _).mono ?_
          rintro r w2 ⟨y1, hy1, rfl, hb2⟩
          have hB2 := hb1.trans (hb2.mono hb1.size)
          have hE2 := hE.below hB2
          have q1 := same_text hx1 hy1
          go_wp2_with fail
          refine (S1.out _).mono ?_
          rintro r w3 ⟨rfl, hb3⟩
          have hB3 := hB2.trans (hb3.mono hB2.size)
          go_wp2_with fail
          refine (S2.out _).mono ?_
          rintro r w4 ⟨rfl, hb4⟩
          have hB4 := hB3.trans (hb4.mono hB3.size)
          have hE4 := hE.below hB4
          go_wp2_with fail
          refine (law_awake _ hE4).mono ?_
          rintro r w5 ⟨rfl, hb5⟩
          go_wp2_with fail
          go_ret
          exact ⟨rfl, hB4.trans (hb5.mono hB4.size)⟩
      · generalize makeR a.toList b.toList = F at *
        generalize smallR a.toList = G at *
        generalize smallR b.toList = G' at *
        obtain ⟨f1, f2⟩ := F
        obtain ⟨n1, n2⟩ := G
        obtain ⟨m1, m2⟩ := G'
        have g9 : (n2 != 0) = true := by
          have h : n2 ≠ 0 := hg
          simp [h]
        clear hg
        go_enter Tryz.func5, Tryz.ntmps5
        go_wp2_with fail
        refine (ref_FewInt a _ ha).mono ?_
        rintro r w' ⟨rfl, rfl⟩
        rw [GA.out]
        go_wp2_with fail
        refine (ref_FewInt b _ hb).mono ?_
        rintro r w' ⟨rfl, rfl⟩
        rw [GB.out]
        go_wp2_with fail
        refine (M1.out _ hE).mono ?_
        rintro r w1 ⟨x1, hx1, rfl, hb1⟩
        have hE1 := hE.below hb1
        go_wp2_with fail
        refine (M2.out _).mono ?_
        rintro r w2 ⟨y1, hy1, rfl, hb2⟩
        have hB2 := hb1.trans (hb2.mono hb1.size)
        have hE2 := hE.below hB2
        have q1 := same_text hx1 hy1
        go_wp2_with fail
        refine (S1.out _).mono ?_
        rintro r w3 ⟨rfl, hb3⟩
        have hB3 := hB2.trans (hb3.mono hB2.size)
        go_wp2_with fail
        refine (S2.out _).mono ?_
        rintro r w4 ⟨rfl, hb4⟩
        have hB4 := hB3.trans (hb4.mono hB3.size)
        have hE4 := hE.below hB4
        go_wp2_with fail
        refine (law_awake _ hE4).mono ?_
        rintro r w5 ⟨rfl, hb5⟩
        go_wp2_with fail
        go_ret
        exact ⟨rfl, hB4.trans (hb5.mono hB4.size)⟩
    · have GB : Hid (decide (b.size ≤ 120) = false) := decide_eq_false hB
      have g1 : decide ((a.size : Int) ≤ 1025) = true := decide_eq_true (by omega)
      go_enter Tryz.func5, Tryz.ntmps5
      go_wp2_with fail
      refine (ref_FewInt a _ ha).mono ?_
      rintro r w' ⟨rfl, rfl⟩
      rw [GA.out]
      go_wp2_with fail
      refine (ref_FewInt b _ hb).mono ?_
      rintro r w' ⟨rfl, rfl⟩
      rw [GB.out]
      go_wp2_with fail
      refine (law_awake _ hE).mono ?_
      rintro r w1 ⟨rfl, hb1⟩
      go_wp2_with fail
      go_ret
      exact ⟨rfl, hb1⟩
  · have GA : Hid (decide (a.size ≤ 120) = false) := decide_eq_false hA
    by_cases hP : a.size ≤ 1025
    · have g1 : decide ((a.size : Int) ≤ 1025) = true := decide_eq_true (by omega)
      go_enter Tryz.func5, Tryz.ntmps5
      go_wp2_with fail
      refine (ref_FewInt a _ ha).mono ?_
      rintro r w' ⟨rfl, rfl⟩
      rw [GA.out]
      go_wp2_with fail
      refine (law_awake _ hE).mono ?_
      rintro r w1 ⟨rfl, hb1⟩
      go_wp2_with fail
      go_ret
      exact ⟨rfl, hb1⟩
    · have g1 : decide ((a.size : Int) ≤ 1025) = false := decide_eq_false (by omega)
      by_cases hQ : 3000 < a.size
      · have g2 : decide (3000 < (a.size : Int)) = true := decide_eq_true (by omega)
        go_enter Tryz.func5, Tryz.ntmps5
        go_wp2_with fail
        refine (ref_FewInt a _ ha).mono ?_
        rintro r w' ⟨rfl, rfl⟩
        rw [GA.out]
        go_wp2_with fail
        refine (law_awake _ hE).mono ?_
        rintro r w1 ⟨rfl, hb1⟩
        go_wp2_with fail
        go_ret
        exact ⟨rfl, hb1⟩
      · have g2 : decide (3000 < (a.size : Int)) = false := decide_eq_false (by omega)
        by_cases hR : 3000 < b.size
        · have g3 : decide (3000 < (b.size : Int)) = true := decide_eq_true (by omega)
          go_enter Tryz.func5, Tryz.ntmps5
          go_wp2_with fail
          refine (ref_FewInt a _ ha).mono ?_
          rintro r w' ⟨rfl, rfl⟩
          rw [GA.out]
          go_wp2_with fail
          refine (law_awake _ hE).mono ?_
          rintro r w1 ⟨rfl, hb1⟩
          go_wp2_with fail
          go_ret
          exact ⟨rfl, hb1⟩
        · have g3 : decide (3000 < (b.size : Int)) = false := decide_eq_false (by omega)
          have M1 := Lib.hid (fun wx (h : Env wx) => ratio_Make a b wx h (by omega) (by omega))
          have M2 := Lib.hid (fun wx => ref_Make a b wx (by omega) (by omega))
          have S1 := Lib.hid (fun wx => ref_Small a wx (by omega))
          have S2 := Lib.hid (fun wx => ref_Small b wx (by omega))
          by_cases hg : (smallR a.toList).2 = 0
          · by_cases hh : (smallR b.toList).2 = 0
            · obtain ⟨e1, l1, u1⟩ := small_ok hg
              obtain ⟨e2, l2, u2⟩ := small_ok hh
              have OF := fun wx (h : Env wx) => ratio_Of (smallR a.toList).1 (smallR b.toList).1 l1 u1 l2 u2 wx h
              rw [e1, e2] at OF
              have W1 := Lib.hid (fun wx (h : Env wx) => ratio_Whole (smallR a.toList).1 l1 u1 wx h)
              have W2 := Lib.hid (fun wx => ref_WholeR (smallR a.toList).1 l1 u1 wx)
              replace OF := Lib.hid OF
              clear e1 e2 l1 u1 l2 u2
              generalize makeR a.toList b.toList = F at *
              generalize smallR a.toList = G at *
              generalize smallR b.toList = G' at *
              obtain ⟨f1, f2⟩ := F
              obtain ⟨n1, n2⟩ := G
              obtain ⟨m1, m2⟩ := G'
              obtain rfl : n2 = 0 := hg
              obtain rfl : m2 = 0 := hh
              go_enter Tryz.func5, Tryz.ntmps5
              go_wp2_with fail
              refine (ref_FewInt a _ ha).mono ?_
              rintro r w' ⟨rfl, rfl⟩
              rw [GA.out]
              go_wp2_with fail
              refine (M1.out _ hE).mono ?_
              rintro r w1 ⟨x1, hx1, rfl, hb1⟩
              have hE1 := hE.below hb1
              go_wp2_with fail
              refine (M2.out _).mono ?_
              rintro r w2 ⟨y1, hy1, rfl, hb2⟩
              have hB2 := hb1.trans (hb2.mono hb1.size)
              have hE2 := hE.below hB2
              have q1 := same_text hx1 hy1
              go_wp2_with fail
              refine (S1.out _).mono ?_
              rintro r w3 ⟨rfl, hb3⟩
              have hB3 := hB2.trans (hb3.mono hB2.size)
              go_wp2_with fail
              refine (S2.out _).mono ?_
              rintro r w4 ⟨rfl, hb4⟩
              have hB4 := hB3.trans (hb4.mono hB3.size)
              have hE4 := hE.below hB4
              go_wp2_with fail
              refine (OF.out _ hE4).mono ?_
              rintro r w5 ⟨z1, hz1, rfl, hb5⟩
              have hB5 := hB4.trans (hb5.mono hB4.size)
              have hE5 := hE.below hB5
              have q2 := same_text hz1 hy1
              go_wp2_with fail
              refine (W1.out _ hE5).mono ?_
              rintro r w6 ⟨t1, ht1, rfl, hb6⟩
              have hB6 := hB5.trans (hb6.mono hB5.size)
              go_wp2_with fail
              refine (W2.out _).mono ?_
              rintro r w7 ⟨t2, ht2, rfl, hb7⟩
              have hB7 := hB6.trans (hb7.mono hB6.size)
              have hE7 := hE.below hB7
              have q3 := same_text ht1.out ht2.out
              go_wp2_with fail
              refine (law_awake _ hE7).mono ?_
              rintro r w8 ⟨rfl, hb8⟩
              go_wp2_with fail
              go_ret
              exact ⟨rfl, hB7.trans (hb8.mono hB7.size)⟩
            · generalize makeR a.toList b.toList = F at *
              generalize smallR a.toList = G at *
              generalize smallR b.toList = G' at *
              obtain ⟨f1, f2⟩ := F
              obtain ⟨n1, n2⟩ := G
              obtain ⟨m1, m2⟩ := G'
              obtain rfl : n2 = 0 := hg
              have g9 : (m2 != 0) = true := by
                have h : m2 ≠ 0 := hh
                simp [h]
              clear hh
              go_enter Tryz.func5, Tryz.ntmps5
              go_wp2_with fail
              refine (ref_FewInt a _ ha).mono ?_
              rintro r w' ⟨rfl, rfl⟩
              rw [GA.out]
              go_wp2_with fail
              refine (M1.out _ hE).mono ?_
              rintro r w1 ⟨x1, hx1, rfl, hb1⟩
              have hE1 := hE.below hb1
              go_wp2_with fail
              refine (M2.out _).mono ?_
              rintro r w2 ⟨y1, hy1, rfl, hb2⟩
              have hB2 := hb1.trans (hb2.mono hb1.size)
              have hE2 := hE.below hB2
              have q1 := same_text hx1 hy1
              go_wp2_with fail
              refine (S1.out _).mono ?_
              rintro r w3 ⟨rfl, hb3⟩
              have hB3 := hB2.trans (hb3.mono hB2.size)
              go_wp2_with fail
              refine (S2.out _).mono ?_
              rintro r w4 ⟨rfl, hb4⟩
              have hB4 := hB3.trans (hb4.mono hB3.size)
              have hE4 := hE.below hB4
              go_wp2_with fail
              refine (law_awake _ hE4).mono ?_
              rintro r w5 ⟨rfl, hb5⟩
              go_wp2_with fail
              go_ret
              exact ⟨rfl, hB4.trans (hb5.mono hB4.size)⟩
          · generalize makeR a.toList b.toList = F at *
            generalize smallR a.toList = G at *
            generalize smallR b.toList = G' at *
            obtain ⟨f1, f2⟩ := F
            obtain ⟨n1, n2⟩ := G
            obtain ⟨m1, m2⟩ := G'
            have g9 : (n2 != 0) = true := by
              have h : n2 ≠ 0 := hg
              simp [h]
            clear hg
            go_enter Tryz.func5, Tryz.ntmps5
            go_wp2_with fail
            refine (ref_FewInt a _ ha).mono ?_
            rintro r w' ⟨rfl, rfl⟩
            rw [GA.out]
            go_wp2_with fail
            refine (M1.out _ hE).mono ?_
            rintro r w1 ⟨x1, hx1, rfl, hb1⟩
            have hE1 := hE.below hb1
            go_wp2_with fail
            refine (M2.out _).mono ?_
            rintro r w2 ⟨y1, hy1, rfl, hb2⟩
            have hB2 := hb1.trans (hb2.mono hb1.size)
            have hE2 := hE.below hB2
            have q1 := same_text hx1 hy1
            go_wp2_with fail
            refine (S1.out _).mono ?_
            rintro r w3 ⟨rfl, hb3⟩
            have hB3 := hB2.trans (hb3.mono hB2.size)
            go_wp2_with fail
            refine (S2.out _).mono ?_
            rintro r w4 ⟨rfl, hb4⟩
            have hB4 := hB3.trans (hb4.mono hB3.size)
            have hE4 := hE.below hB4
            go_wp2_with fail
            refine (law_awake _ hE4).mono ?_
            rintro r w5 ⟨rfl, hb5⟩
            go_wp2_with fail
            go_ret
            exact ⟨rfl, hB4.trans (hb5.mono hB4.size)⟩

end Go.Proofs.YtgkiaonakiflbaaGreatDoor
