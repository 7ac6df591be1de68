/- The law RatioChecks: the walk. -/
import Derived.Test.YtgkiaonakiflbaaGreatDoorLb
namespace Go.Proofs.YtgkiaonakiflbaaGreatDoor
open Go.RowKit

theorem same_text {c d : ByteArray} {l : Bytes} (h : Is c l) (h' : Is d l) : (c.toList == d.toList) = true := by rw [h.out, h'.out]; exact beq_self_eq_true l

set_option maxRecDepth 100000 in
set_option maxHeartbeats 2000000 in
theorem law_checks (a : ByteArray) (w : World) (hE : Env w) (hs : a.size ≤ 140737488351232) :
    Calls Tryz.prog 7 #[.string a] w fun r w' => r = .returned (.bool true) ∧ Below w.heap.size w w' := by
  by_cases hf : fewb a.toList = true
  · have hz := fewb_size hf
    have P1 := fun wx (h : Env wx) => ratio_Parts a wx h (by omega)
    have P2 := fun wx => ref_Parts a wx (by omega)
    have S1 := fun wx (h : Env wx) => ratio_Sign a wx h (by omega)
    have S2 := fun wx => ref_SignR a wx (by omega)
    have N1 := fun wx (h : Env wx) => ratio_Neg a wx h (by omega)
    have N2 := fun wx => ref_NegR a wx (by omega)
    have F1 := fun wx (h : Env wx) => ratio_Floor a wx h (by omega)
    have F2 := fun wx => ref_FloorR a wx (by omega)
    have C1 := fun wx (h : Env wx) => ratio_Check a wx h (by omega)
    have C2 := fun wx => ref_CheckR a wx (by omega)
    generalize partsR a.toList = Fp at *
    generalize signR a.toList = Fs at *
    generalize negR a.toList = Fn at *
    generalize floorR a.toList = Ff at *
    generalize chkR a.toList = Fc at *
    obtain ⟨p1, p2, p3⟩ := Fp
    obtain ⟨s1, s2⟩ := Fs
    obtain ⟨n1, n2⟩ := Fn
    obtain ⟨f1, f2⟩ := Ff
    have HP1 := Lib.hid P1; clear P1
    have HP2 := Lib.hid P2; clear P2
    have HS1 := Lib.hid S1; clear S1
    have HS2 := Lib.hid S2; clear S2
    have HN1 := Lib.hid N1; clear N1
    have HN2 := Lib.hid N2; clear N2
    have HF1 := Lib.hid F1; clear F1
    have HF2 := Lib.hid F2; clear F2
    have HC1 := Lib.hid C1; clear C1
    have HC2 := Lib.hid C2; clear C2
    have HF := Lib.hid hf; clear hf
    go_enter Tryz.func7, Tryz.ntmps7
    go_wp2_with fail
    refine (ref_Few a _ hs).mono ?_
    rintro r w0 ⟨rfl, hB0⟩
    rw [HF.out]
    have hE0 := hE.below hB0
    go_wp2_with fail
    refine (HP1.out _ hE0).mono ?_
    rintro r w1 ⟨x1, x2, hx1, hx2, rfl, hb1⟩
    have hB1 := hB0.trans (hb1.mono hB0.size)
    have hE1 := hE.below hB1
    go_wp2_with fail
    refine (HP2.out _).mono ?_
    rintro r w2 ⟨y1, y2, hy1, hy2, rfl, hb2⟩
    have hB2 := hB1.trans (hb2.mono hB1.size)
    have hE2 := hE.below hB2
    go_wp2_with fail
    refine (HS1.out _ hE2).mono ?_
    rintro r w3 ⟨rfl, hb3⟩
    have hB3 := hB2.trans (hb3.mono hB2.size)
    have hE3 := hE.below hB3
    go_wp2_with fail
    refine (HS2.out _).mono ?_
    rintro r w4 ⟨rfl, hb4⟩
    have hB4 := hB3.trans (hb4.mono hB3.size)
    have hE4 := hE.below hB4
    go_wp2_with fail
    refine (HN1.out _ hE4).mono ?_
    rintro r w5 ⟨x3, hx3, rfl, hb5⟩
    have hB5 := hB4.trans (hb5.mono hB4.size)
    have hE5 := hE.below hB5
    go_wp2_with fail
    refine (HN2.out _).mono ?_
    rintro r w6 ⟨y3, hy3, rfl, hb6⟩
    have hB6 := hB5.trans (hb6.mono hB5.size)
    have hE6 := hE.below hB6
    go_wp2_with fail
    refine (HF1.out _ hE6).mono ?_
    rintro r w7 ⟨x4, hx4, rfl, hb7⟩
    have hB7 := hB6.trans (hb7.mono hB6.size)
    have hE7 := hE.below hB7
    go_wp2_with fail
    refine (HF2.out _).mono ?_
    rintro r w8 ⟨y4, hy4, rfl, hb8⟩
    have hB8 := hB7.trans (hb8.mono hB7.size)
    have hE8 := hE.below hB8
    have g1 := same_text hx1 hy1
    have g2 := same_text hx2 hy2
    have g3 := same_text hx3 hy3
    have g4 := same_text hx4 hy4
    go_wp2_with fail
    refine (law_awake _ hE8).mono ?_
    rintro r w9 ⟨rfl, hb9⟩
    have hB9 := hB8.trans (hb9.mono hB8.size)
    have hE9 := hE.below hB9
    go_wp2_with fail
    refine (HC1.out _ hE9).mono ?_
    rintro r w10 ⟨rfl, hb10⟩
    have hB10 := hB9.trans (hb10.mono hB9.size)
    have hE10 := hE.below hB10
    go_wp2_with fail
    refine (HC2.out _).mono ?_
    rintro r w11 ⟨rfl, hb11⟩
    have hB11 := hB10.trans (hb11.mono hB10.size)
    have hE11 := hE.below hB11
    go_wp2_with fail
    go_ret
    exact ⟨rfl, hB11⟩
  · have hf' : fewb a.toList = false := by simpa using hf
    have HF := Lib.hid hf'; clear hf hf'
    go_enter Tryz.func7, Tryz.ntmps7
    go_wp2_with fail
    refine (ref_Few a _ hs).mono ?_
    rintro r w0 ⟨rfl, hB0⟩
    rw [HF.out]
    have hE0 := hE.below hB0
    go_wp2_with fail
    refine (law_awake _ hE0).mono ?_
    rintro r w1 ⟨rfl, hb1⟩
    go_wp2_with fail
    go_ret
    exact ⟨rfl, hB0.trans (hb1.mono hB0.size)⟩

end Go.Proofs.YtgkiaonakiflbaaGreatDoor
