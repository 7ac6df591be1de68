/- right, and the law RatioOrders: the walk. -/
import Derived.Test.YtgkiaonakiflbaaGreatDoorTc
import Derived.Test.YtgkiaonakiflbaaGreatDoorTh
namespace Go.Proofs.YtgkiaonakiflbaaGreatDoor
open Go.RowKit

def badR (s : ByteArray) : Bool := !shortb s.toList || (chkR s.toList != 0)
theorem right_test (s : ByteArray) (w : World) (hs : s.size ≤ 140737488351232) :
    Calls Tryz.prog 100 #[.string s] w fun r w' => r = .returned (.bool (badR s)) ∧ Below w.heap.size w w' := by
  rcases (show shortb s.toList = true ∨ shortb s.toList = false by cases shortb s.toList <;> simp) with h | h
  · have hz := ((shortb_iff _).1 h).size
    have HF : Hid (badR s = (chkR s.toList != 0)) := by show _ = _; unfold badR; rw [h]; rfl
    have H := Lib.hid h; clear h
    go_enter Tryz.func100, Tryz.ntmps100
    go_wp2_with fail
    refine (ref_Short s _ hs).mono ?_
    rintro r w1 ⟨rfl, hb⟩
    rw [H.out]
    go_wp2_with fail
    refine (ref_CheckR s _ (by omega)).mono ?_
    rintro r w2 ⟨rfl, hb2⟩
    go_wp2_with fail
    go_ret
    exact ⟨ret_bool HF.out.symm, hb.trans (hb2.mono hb.size)⟩
  · have HF : Hid (badR s = true) := by show _ = _; unfold badR; rw [h]; rfl
    have H := Lib.hid h; clear h
    go_enter Tryz.func100, Tryz.ntmps100
    go_wp2_with fail
    refine (ref_Short s _ hs).mono ?_
    rintro r w1 ⟨rfl, hb⟩
    rw [H.out]
    go_wp2_with fail
    go_ret
    exact ⟨ret_bool HF.out.symm, hb⟩

theorem law_right (b off n c : Nat) (ss : List ByteArray) (w : World) (hn : ss.length = n) (hmax : n ≤ 4096) (hs : ∀ s ∈ ss, s.size ≤ 140737488351232) (hr : Row w b off (strs ss)) :
    Calls Tryz.prog 49 #[.slice (some ⟨b, off, none⟩) n c] w fun r w' => r = .returned (.bool (!(ss.any badR))) ∧ Below w.heap.size w w' := by
  have ht : Tests 100 badR ss := fun s h wx => right_test s wx (hs s h)
  have HT := Lib.hid ht; clear ht
  go_enter Tryz.func49, Tryz.ntmps49
  go_wp2_with fail
  refine (contains_func 100 (.inr rfl) badR b off n c ss _ hn hmax hr HT.out).mono ?_
  rintro r w1 ⟨rfl, hb⟩
  go_wp2_with fail
  go_ret
  exact ⟨rfl, hb⟩
theorem good_rs {s : ByteArray} (h : badR s = false) : RS s (num (cutN s.toList)) (num (cutD s.toList)) := by
  unfold badR at h
  simp at h
  exact ((shortb_iff _).1 h.1).rs h.2
/-- right of texts that are given one by one. -/
theorem right_new (ss : List ByteArray) (n : Nat) (T : TypeId) (w : World) (hn : ss.length = n) (hmax : n ≤ 4096) (hs : ∀ s ∈ ss, s.size ≤ 140737488351232) :
    Calls Tryz.prog 49 #[.slice (some ⟨w.heap.size, 0, none⟩) n n] (w.alloc (.cells (strs ss).toArray T)) fun r w' => r = .returned (.bool (!(ss.any badR))) ∧ Below w.heap.size w w' := by
  refine (law_right w.heap.size 0 n n ss _ hn hmax hs (row_new w _ T)).mono ?_
  rintro e w' ⟨rfl, h⟩
  exact ⟨rfl, below_of_alloc (by rw [World.size_alloc] at h; exact h.mono (by omega))⟩

theorem fdiv_parts (n : Int) {p : Int} (hp : 0 < p) : 0 ≤ n - n.fdiv p * p ∧ n - n.fdiv p * p < p := by
  have h1 := Int.fmod_nonneg_of_pos n hp
  have h2 := Int.fmod_lt_of_pos n hp
  have h3 := Int.mul_fdiv_add_fmod n p
  rw [Int.mul_comm] at h3
  omega
theorem cmp_swap (x y : Int) : cmpZ y x = -cmpZ x y := by
  unfold cmpZ
  repeat' split
  all_goals omega
theorem cmp_zero {x y : Int} : cmpZ x y = 0 ↔ x = y := by
  unfold cmpZ
  repeat' split
  all_goals omega
theorem cmp_lt_iff2 {x y : Int} : cmpZ x y < 0 ↔ x < y := by
  unfold cmpZ
  repeat' split
  all_goals omega
theorem one_rb : RB 1 ⟨#[49]⟩ 1 1 := ⟨by rw [rtext_one, itoa_one]; exact toList_lit _, by omega, by decide, wid_one, wid_one⟩

set_option maxRecDepth 100000 in
set_option maxHeartbeats 4000000 in
theorem law_orders (a b : ByteArray) (k : Int) (w : World) (hE : Env w) (ha : a.size ≤ 140737488351232) (hb : b.size ≤ 140737488351232) (hk0 : 0 ≤ k) (hk1 : k ≤ 65535) :
    Calls Tryz.prog 9 #[.string a, .string b, .int .u16 k] w fun r w' => r = .returned (.bool true) ∧ Below w.heap.size w w' := by
  have hss : ∀ s ∈ [a, b], s.size ≤ 140737488351232 := by
    intro s hs
    simp only [List.mem_cons, List.not_mem_nil, or_false] at hs
    rcases hs with rfl | rfl
    · exact ha
    · exact hb
  rcases (show [a, b].any badR = true ∨ [a, b].any badR = false by cases [a, b].any badR <;> simp) with hf | hf
  · have HF := Lib.hid hf; clear hf
    go_enter Tryz.func9, Tryz.ntmps9
    go_wp2_with fail
    refine (right_new [a, b] 2 _ _ rfl (by omega) hss).mono ?_
    rintro r w0 ⟨rfl, hb0⟩
    rw [HF.out]
    have hE0 := hE.below hb0
    go_wp2_with fail
    refine (law_awake _ hE0).mono ?_
    rintro r w1 ⟨rfl, hb1⟩
    go_wp2_with fail
    go_ret
    exact ⟨rfl, hb0.trans (hb1.mono hb0.size)⟩
  · have hba : badR a = false ∧ badR b = false := by simpa using hf
    have sa := good_rs hba.1
    have sb := good_rs hba.2
    have HF := Lib.hid hf; clear hf hba
    generalize num (cutN a.toList) = n at *
    generalize num (cutD a.toList) = p at *
    generalize num (cutN b.toList) = m at *
    generalize num (cutD b.toList) = q at *
    have qa := sa.rep
    have qb := sb.rep
    obtain ⟨ra, wn, wp⟩ := sa
    obtain ⟨rb, wm, wq⟩ := sb
    have hp := ra.pos
    have hq := rb.pos
    have hfl := fdiv_parts n hp
    have wF : wid (n.fdiv p) ≤ 30 := Nat.le_trans (wid_mono (fdiv_wid (by omega))) wn
    have F1 : floorR a.toList = (Lib.itoa (n.fdiv p), 0) := by unfold floorR; rw [if_pos ra.chk, ra.numOf, ra.denOf]
    have P1 : partsR a.toList = (Lib.itoa n, Lib.itoa p, 0) := by unfold partsR; rw [if_pos ra.chk, ra.numOf, ra.denOf]
    have FL := fun wx (h : Env wx) => ratio_Floor a wx h (by have := ra.size; omega)
    rw [F1] at FL
    have PA := fun wx (h : Env wx) => ratio_Parts a wx h (by have := ra.size; omega)
    rw [P1] at PA
    have HFL := Lib.hid FL; have HPA := Lib.hid PA
    clear F1 P1 FL PA
    generalize n.fdiv p = f at *
    have hrho : Hid (0 ≤ n - f * p ∧ n - f * p < p) := hfl
    obtain ⟨x, hx⟩ : ∃ x, x = cmpZ (n * q) (m * p) := ⟨_, rfl⟩
    have hx2 : Hid (cmpZ (m * p) (n * q) = -x) := by show _ = _; rw [hx]; exact cmp_swap _ _
    have hx3 : Hid (sgn (n * q - m * p) = x) := by show _ = _; rw [hx]; exact (cmp_sub _ _).symm
    have xr : -1 ≤ x ∧ x ≤ 1 := by rw [hx]; exact cmpZ_range _ _
    obtain ⟨x0, x1⟩ := xr
    have hxe : ((x == 0) = true ∧ (a.toList == b.toList) = true) ∨ ((x == 0) = false ∧ (a.toList == b.toList) = false) := by
      by_cases h0 : x = 0
      · left
        have hnq : n * q = m * p := cmp_zero.1 (hx ▸ h0)
        have e : a = b := qa.eq qb hnq
        exact ⟨by simp [h0], by rw [e]; exact beq_self_eq_true _⟩
      · right
        refine ⟨by simp [h0], ?_⟩
        rw [beq_eq_false_iff_ne]
        intro e
        have h1 := ra.numOf; have h2 := ra.denOf
        rw [e, rb.numOf] at h1
        rw [e, rb.denOf] at h2
        apply h0
        rw [hx, cmp_zero, h1, h2]
    have HX := Lib.hid hx; clear hx
    obtain ⟨kk, hkk⟩ : ∃ kk, kk = -1 - k := ⟨_, rfl⟩
    have hk2 : -65536 ≤ kk := by omega
    have hk3 : kk ≤ -1 := by omega
    have HK := Lib.hid hkk; clear hkk
    have wk : wid kk ≤ 9 := wid_small (by omega)
    have hone : Rep 61 ⟨#[49]⟩ 1 1 := one_rb.rep.mono (by omega)
    have hp0 := Lib.hid hp
    have WF := Lib.hid wF; have WK := Lib.hid wk
    have hnk : Hid (wid (n * kk) ≤ 39 ∧ wid (p * kk) ≤ 39) := by
      have := wid_mul n kk
      have := wid_mul p kk
      exact ⟨by omega, by omega⟩
    have hWn := Lib.hid wn; have hWp := Lib.hid wp
    have wR : Hid (∀ K, 30 ≤ K → wid n ≤ K) := fun K h => Nat.le_trans wn h
    clear wm wq wF wk hfl wn wp hq hp
    rcases hxe with ⟨g1, g2⟩ | ⟨g1, g2⟩
    all_goals
      have G1 := Lib.hid g1; have G2 := Lib.hid g2
      go_enter Tryz.func9, Tryz.ntmps9
      go_wp2_with fail
      refine (right_new [a, b] 2 _ _ rfl (by omega) hss).mono ?_
      rintro r w0 ⟨rfl, hB0⟩
      rw [HF.out]
      have hE0 := hE.below hB0
      go_wp2_with fail
      refine (call_Sub 30 a b n p m q _ hE0 qa qb (by omega)).mono ?_
      rintro r w1 ⟨d, hd, rfl, hb1⟩
      have hB1 := hB0.trans (hb1.mono hB0.size)
      have hE1 := hE.below hB1
      go_wp2_with fail
      refine (call_Sign 61 d _ _ _ hE1 hd (by omega)).mono ?_
      rintro r w2 ⟨rfl, hb2⟩
      have hB2 := hB1.trans (hb2.mono hB1.size)
      have hE2 := hE.below hB2
      rw [hx3.out]
      go_wp2_with fail
      refine (call_Compare 30 a b n p m q _ hE2 qa qb (by omega)).mono ?_
      rintro r w3 ⟨rfl, hb3⟩
      have hB3 := hB2.trans (hb3.mono hB2.size)
      have hE3 := hE.below hB3
      rw [← HX.out]
      go_wp2_with fail
      refine (call_Compare 30 b a m q n p _ hE3 qb qa (by omega)).mono ?_
      rintro r w4 ⟨rfl, hb4⟩
      have hB4 := hB3.trans (hb4.mono hB3.size)
      have hE4 := hE.below hB4
      rw [hx2.out]
      go_wp2_with fail
      refine (HFL.out _ hE4).mono ?_
      rintro r w5 ⟨fm, hfm, rfl, hb5⟩
      have hB5 := hB4.trans (hb5.mono hB4.size)
      have hE5 := hE.below hB5
      go_wp2_with fail
      refine (call_Make 30 fm ⟨#[49]⟩ f 1 f 1 _ hE5 hfm is_one_text (by omega) WF.out (by have := wid_one; omega) (by omega) (by omega) rfl).mono ?_
      rintro r w6 ⟨low, hlow, rfl, hb6⟩
      have hB6 := hB5.trans (hb6.mono hB5.size)
      have hE6 := hE.below hB6
      go_wp2_with fail
      refine (call_Sub 30 a low n p f 1 _ hE6 qa hlow (by omega)).mono ?_
      rintro r w7 ⟨rest, hrest, rfl, hb7⟩
      have hB7 := hB6.trans (hb7.mono hB6.size)
      have hE7 := hE.below hB7
      replace hrest : Rep 61 rest (n - f * p) p := hrest.cast hp0.out (by grind)
      go_wp2_with fail
      refine (call_Sign 61 rest _ _ _ hE7 hrest (by omega)).mono ?_
      rintro r w8 ⟨rfl, hb8⟩
      have hB8 := hB7.trans (hb8.mono hB7.size)
      have hE8 := hE.below hB8
      have t1 : decide (sgn (n - f * p) < 0) = false := decide_eq_false (fun h => by have h1 := sgn_lt.1 h; have h2 := hrho.out; omega)
      go_wp2_with fail
      refine (call_Compare 61 rest ⟨#[49]⟩ _ _ 1 1 _ hE8 hrest hone (by omega)).mono ?_
      rintro r w9 ⟨rfl, hb9⟩
      have hB9 := hB8.trans (hb9.mono hB8.size)
      have hE9 := hE.below hB9
      rw [Int.mul_one, Int.one_mul]
      have t2 : decide (0 ≤ cmpZ (n - f * p) p) = false := decide_eq_false (fun h => by
        have h1 : cmpZ (n - f * p) p < 0 := cmp_lt_iff2.2 (by have := hrho.out; omega)
        omega)
      go_wp2_with fail
      refine (HPA.out _ hE9).mono ?_
      rintro r w10 ⟨cn, cp, hcn, hcp, rfl, hb10⟩
      have hB10 := hB9.trans (hb10.mono hB9.size)
      have hE10 := hE.below hB10
      go_wp2_with fail
      rw [← HK.out]
      refine (whole_Of kk (by omega) (by omega) _ hE10).mono ?_
      rintro r w11 ⟨ck, hck, rfl, hb11⟩
      have hB11 := hB10.trans (hb11.mono hB10.size)
      have hE11 := hE.below hB11
      go_wp2_with fail
      refine (whole_Mul cn ck n kk _ hE11 ⟨hcn, by have := hWn.out; omega⟩ ⟨hck, by have := WK.out; omega⟩).mono ?_
      rintro r w12 ⟨cv, hcv, rfl, hb12⟩
      have hB12 := hB11.trans (hb12.mono hB11.size)
      have hE12 := hE.below hB12
      rw [limE0 (show wid (n * kk) ≤ 1024 by have := hnk.out; omega)]
      replace hcv : IsI cv (n * kk) := (RI.lim hcv (by have := hnk.out; omega)).is
      go_wp2_with fail
      refine (whole_Mul cp ck p kk _ hE12 ⟨hcp, by have := hWp.out; omega⟩ ⟨hck, by have := WK.out; omega⟩).mono ?_
      rintro r w13 ⟨cw, hcw, rfl, hb13⟩
      have hB13 := hB12.trans (hb13.mono hB12.size)
      have hE13 := hE.below hB13
      rw [limE0 (show wid (p * kk) ≤ 1024 by have := hnk.out; omega)]
      replace hcw : IsI cw (p * kk) := (RI.lim hcw (by have := hnk.out; omega)).is
      go_wp2_with fail
      refine (call_Make 39 cv cw (n * kk) (p * kk) n p _ hE13 hcv hcw (Int.mul_ne_zero (by have := hp0.out; omega) (by omega)) hnk.out.1 hnk.out.2 (by omega) hp0.out (by grind)).mono ?_
      rintro r w14 ⟨again, hagain, rfl, hb14⟩
      have hB14 := hB13.trans (hb14.mono hB13.size)
      have hE14 := hE.below hB14
      have e14 : again = a := hagain.eq qa rfl
      have g14 : (again.toList == a.toList) = true := by rw [e14]; exact beq_self_eq_true _
      go_wp2_with fail
      refine (law_awake _ hE14).mono ?_
      rintro r w15 ⟨rfl, hb15⟩
      have hB15 := hB14.trans (hb15.mono hB14.size)
      have hE15 := hE.below hB15
      go_wp2_with fail
      go_ret
      exact ⟨rfl, hB15⟩

end Go.Proofs.YtgkiaonakiflbaaGreatDoor
