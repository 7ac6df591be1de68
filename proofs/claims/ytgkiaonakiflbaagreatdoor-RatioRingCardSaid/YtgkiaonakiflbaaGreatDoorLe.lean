/- The law RatioComputes: the walk. -/
import Derived.Test.YtgkiaonakiflbaaGreatDoorLc
import Derived.Test.YtgkiaonakiflbaaGreatDoorSn
namespace Go.Proofs.YtgkiaonakiflbaaGreatDoor
open Go.RowKit

/-- The results of Sub and Mul. -/
def subR (a b : Bytes) : Bytes × Int := arith (fun n p m q => [n * q, m * p, n * q - m * p, p * q]) (fun n p m q => n * q - m * p) (fun _ p _ q => p * q) a b
def mulR (a b : Bytes) : Bytes × Int := arith (fun n p m q => [n * m, p * q]) (fun n _ m _ => n * m) (fun _ p _ q => p * q) a b

set_option maxRecDepth 100000 in
set_option maxHeartbeats 4000000 in
theorem law_computes (a b : ByteArray) (w : World) (hE : Env w) (ha : a.size ≤ 140737488351232) (hb : b.size ≤ 140737488351232) :
    Calls Tryz.prog 4 #[.string a, .string b] w fun r w' => r = .returned (.bool true) ∧ Below w.heap.size w w' := by
  rcases (show fewb a.toList = true ∨ fewb a.toList = false by cases fewb a.toList <;> simp) with fa | fa
  · rcases (show fewb b.toList = true ∨ fewb b.toList = false by cases fewb b.toList <;> simp) with fb | fb
    · have za := fewb_size fa
      have zb := fewb_size fb
      have A1 : ∀ wx, Env wx → Calls Tryz.prog 19 #[.string a, .string b] wx (OpS (addR a.toList b.toList) wx) := fun wx h => (ratio_Add a b wx h (by omega) (by omega)).mono fun _ _ k => k.opS
      have A2 := fun wx => ref_AddR a b wx (by omega) (by omega)
      have B1 : ∀ wx, Env wx → Calls Tryz.prog 21 #[.string a, .string b] wx (OpS (subR a.toList b.toList) wx) := fun wx h => (ratio_Sub a b wx h (by omega) (by omega)).mono fun _ _ k => k.opS
      have B2 : ∀ wx, Calls Tryz.prog 22 #[.string a, .string b] wx (OpS (subR a.toList b.toList) wx) := fun wx => ref_SubR a b wx (by omega) (by omega)
      have C1 : ∀ wx, Env wx → Calls Tryz.prog 23 #[.string a, .string b] wx (OpS (mulR a.toList b.toList) wx) := fun wx h => (ratio_Mul a b wx h (by omega) (by omega)).mono fun _ _ k => k.opS
      have C2 : ∀ wx, Calls Tryz.prog 24 #[.string a, .string b] wx (OpS (mulR a.toList b.toList) wx) := fun wx => ref_MulR a b wx (by omega) (by omega)
      have D1 := fun wx (h : Env wx) => ratio_Div a b wx h (by omega) (by omega)
      have D2 := fun wx => ref_DivR a b wx (by omega) (by omega)
      have E1 := fun wx (h : Env wx) => ratio_Compare a b wx h (by omega) (by omega)
      have E2 := fun wx => ref_CompareR a b wx (by omega) (by omega)
      generalize addR a.toList b.toList = F1 at *
      generalize subR a.toList b.toList = F2 at *
      generalize mulR a.toList b.toList = F3 at *
      generalize divR a.toList b.toList = F4 at *
      generalize cmpR a.toList b.toList = F5 at *
      obtain ⟨f1, g1⟩ := F1
      obtain ⟨f2, g2⟩ := F2
      obtain ⟨f3, g3⟩ := F3
      obtain ⟨f4, g4⟩ := F4
      obtain ⟨f5, g5⟩ := F5
      have HA1 := Lib.hid A1; clear A1
      have HA2 := Lib.hid A2; clear A2
      have HB1 := Lib.hid B1; clear B1
      have HB2 := Lib.hid B2; clear B2
      have HC1 := Lib.hid C1; clear C1
      have HC2 := Lib.hid C2; clear C2
      have HD1 := Lib.hid D1; clear D1
      have HD2 := Lib.hid D2; clear D2
      have HE1 := Lib.hid E1; clear E1
      have HE2 := Lib.hid E2; clear E2
      have FA := Lib.hid fa; have FB := Lib.hid fb; clear fa fb
      go_enter Tryz.func4, Tryz.ntmps4
      go_wp2_with fail
      refine (ref_Few a _ ha).mono ?_
      rintro r w00 ⟨rfl, hB00⟩
      rw [FA.out]
      go_wp2_with fail
      refine (ref_Few b _ hb).mono ?_
      rintro r w0 ⟨rfl, hb0⟩
      rw [FB.out]
      have hB0 := hB00.trans (hb0.mono hB00.size)
      have hE0 := hE.below hB0
      go_wp2_with fail
      refine (HA1.out _ hE0).mono ?_
      rintro r w1 ⟨x1, hx1, rfl, hb1⟩
      have hB1 := hB0.trans (hb1.mono hB0.size)
      have hE1 := hE.below hB1
      go_wp2_with fail
      refine (HA2.out _).mono ?_
      rintro r w2 ⟨y1, hy1, rfl, hb2⟩
      have hB2 := hB1.trans (hb2.mono hB1.size)
      have hE2 := hE.below hB2
      go_wp2_with fail
      refine (HB1.out _ hE2).mono ?_
      rintro r w3 ⟨x2, hx2, rfl, hb3⟩
      have hB3 := hB2.trans (hb3.mono hB2.size)
      have hE3 := hE.below hB3
      go_wp2_with fail
      refine (HB2.out _).mono ?_
      rintro r w4 ⟨y2, hy2, rfl, hb4⟩
      have hB4 := hB3.trans (hb4.mono hB3.size)
      have hE4 := hE.below hB4
      have q1 := same_text hx1 hy1
      have q2 := same_text hx2 hy2
      go_wp2_with fail
      refine (HC1.out _ hE4).mono ?_
      rintro r w5 ⟨x3, hx3, rfl, hb5⟩
      have hB5 := hB4.trans (hb5.mono hB4.size)
      have hE5 := hE.below hB5
      go_wp2_with fail
      refine (HC2.out _).mono ?_
      rintro r w6 ⟨y3, hy3, rfl, hb6⟩
      have hB6 := hB5.trans (hb6.mono hB5.size)
      have hE6 := hE.below hB6
      go_wp2_with fail
      refine (HD1.out _ hE6).mono ?_
      rintro r w7 ⟨x4, hx4, rfl, hb7⟩
      have hB7 := hB6.trans (hb7.mono hB6.size)
      have hE7 := hE.below hB7
      go_wp2_with fail
      refine (HD2.out _).mono ?_
      rintro r w8 ⟨y4, hy4, rfl, hb8⟩
      have hB8 := hB7.trans (hb8.mono hB7.size)
      have hE8 := hE.below hB8
      go_wp2_with fail
      refine (HE1.out _ hE8).mono ?_
      rintro r w9 ⟨rfl, hb9⟩
      have hB9 := hB8.trans (hb9.mono hB8.size)
      have hE9 := hE.below hB9
      go_wp2_with fail
      refine (HE2.out _).mono ?_
      rintro r w10 ⟨rfl, hb10⟩
      have hB10 := hB9.trans (hb10.mono hB9.size)
      have hE10 := hE.below hB10
      have q3 := same_text hx3 hy3
      have q4 := same_text hx4 hy4
      go_wp2_with fail
      refine (law_awake _ hE10).mono ?_
      rintro r w11 ⟨rfl, hb11⟩
      have hB11 := hB10.trans (hb11.mono hB10.size)
      have hE11 := hE.below hB11
      go_wp2_with fail
      go_ret
      exact ⟨rfl, hB11⟩
    · have FA := Lib.hid fa; have FB := Lib.hid fb; clear fa fb
      go_enter Tryz.func4, Tryz.ntmps4
      go_wp2_with fail
      refine (ref_Few a _ ha).mono ?_
      rintro r w00 ⟨rfl, hB00⟩
      rw [FA.out]
      go_wp2_with fail
      refine (ref_Few b _ hb).mono ?_
      rintro r w0 ⟨rfl, hb0⟩
      rw [FB.out]
      have hB0 := hB00.trans (hb0.mono hB00.size)
      have hE0 := hE.below hB0
      go_wp2_with fail
      refine (law_awake _ hE0).mono ?_
      rintro r w1 ⟨rfl, hb1⟩
      go_wp2_with fail
      go_ret
      exact ⟨rfl, hB0.trans (hb1.mono hB0.size)⟩
  · have FA := Lib.hid fa; clear fa
    go_enter Tryz.func4, Tryz.ntmps4
    go_wp2_with fail
    refine (ref_Few a _ ha).mono ?_
    rintro r w0 ⟨rfl, hB0⟩
    rw [FA.out]
    have hE0 := hE.below hB0
    go_wp2_with fail
    refine (law_awake _ hE0).mono ?_
    rintro r w1 ⟨rfl, hb1⟩
    go_wp2_with fail
    go_ret
    exact ⟨rfl, hB0.trans (hb1.mono hB0.size)⟩

end Go.Proofs.YtgkiaonakiflbaaGreatDoor
