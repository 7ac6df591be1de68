/- K7: the texts Sa Sb Sc Sd Se Sf, joined. -/
import Derived.Test.YtgkiaonakiflbaaGreatDoorK6
import Derived.Deep.RegionHeld3
/- The contracts of metrolabref02's Lowest, Make, Signum, pair. -/
namespace Go.Proofs.YtgkiaonakiflbaaGreatDoor
open Go.RowKit

theorem gS_abs (N D : Int) : (gS N D).natAbs = Int.gcd N D := by unfold gS; split <;> omega
theorem gcd_wid' {N D : Int} {K : Nat} (hN : wid N ≤ K) (hD : wid D ≤ K) : wid (Int.gcd N D : Int) ≤ K := by
  by_cases h : N = 0
  · subst h; rw [Int.gcd_zero_left]
    exact Nat.le_trans (wid_mono (by omega)) hD
  · refine Nat.le_trans (wid_mono ?_) hN
    have := Nat.le_of_dvd (by omega) (Nat.gcd_dvd_left N.natAbs D.natAbs)
    exact this
theorem gS_wid' {N D : Int} {K : Nat} (hN : wid N ≤ K) (hD : wid D ≤ K) : wid (gS N D) ≤ K := by
  have h := gcd_wid' hN hD
  unfold gS
  split
  · rw [show (0 : Int) - (Int.gcd N D : Int) = -(Int.gcd N D : Int) by omega, wid_neg]; exact h
  · exact h

/-- A text that is a quotient, made anew. -/
def NewRat (n d : Int) (w : World) (e : Ending) (w' : World) : Prop := ∃ c, Is c (rtext n d) ∧ e = .returned (.string c) ∧ Below w.heap.size w w'

set_option maxRecDepth 100000 in
set_option maxHeartbeats 1000000 in
theorem ref_Lowest (a b : ByteArray) (N D : Int) (w : World) (ha : IsI a N) (hb : IsI b D) (hD : D ≠ 0) (h1 : wid N ≤ 10000000) (h2 : wid D ≤ 10000000) :
    Calls Tryz.prog 86 #[.string a, .string b] w (NewRat (lowN N D) (lowD N D) w) := by
  have hl := low_spec N D hD
  have hne := hl.ne
  have wg := gcd_wid' h1 h2
  have wgS := gS_wid' h1 h2
  have fin : Hid (∀ (g : ByteArray) (w1 : World), IsI g (gS N D) → True) := fun _ _ _ => trivial
  have tail : ∀ (c d : ByteArray), IsI c (lowN N D) → IsI d (lowD N D) → (lowD N D = 1 → Is c (rtext (lowN N D) (lowD N D))) ∧ (lowD N D ≠ 1 → Is (c ++ (⟨#[47]⟩ : ByteArray) ++ d) (rtext (lowN N D) (lowD N D))) := by
    intro c d hc hd
    refine ⟨fun h => ?_, fun h => ?_⟩
    · rw [h, rtext_one]; exact hc.out
    · unfold Is
      rw [rtext_ne h, toList_append, toList_append, hc.out, hd.out, show (⟨#[47]⟩ : ByteArray).toList = [47] from toList_lit _, List.append_assoc]; rfl
  have HT := Lib.hid tail; clear tail fin
  have wn : wid (lowN N D) ≤ 10000000 := Nat.le_trans (wid_mono (fdiv_wid hne)) h1
  have wd : wid (lowD N D) ≤ 10000000 := Nat.le_trans (wid_mono (fdiv_wid hne)) h2
  have hneg : (decide (D < 0) = true ∧ Hid (-(Int.gcd N D : Int) = gS N D)) ∨ (decide (D < 0) = false ∧ Hid ((Int.gcd N D : Int) = gS N D)) := by
    by_cases h : D < 0
    · left; refine ⟨decide_eq_true h, ?_⟩; show _ = _; unfold gS; rw [if_pos h]; omega
    · right; refine ⟨decide_eq_false h, ?_⟩; show _ = _; unfold gS; rw [if_neg h]
  have h1d : lowD N D = 1 ∨ lowD N D ≠ 1 := by omega
  rcases hneg with ⟨t1, hg0⟩ | ⟨t1, hg0⟩
  · rcases h1d with h1d | h1d
    all_goals
      have H1D := Lib.hid h1d; clear h1d
      go_enter Tryz.func86, Tryz.ntmps86
      go_wp2_with fail
      refine (ref_Shared a b N D _ ha hb h1 h2).mono ?_
      rintro r w1 ⟨g, hg, rfl, hb1⟩
      have sg := hg.size_le
      go_wp2_with fail
      refine (ref_Below b D _ hb).mono ?_
      rintro r w' ⟨rfl, rfl⟩
      go_wp2_with fail
      refine (ref_Turned g _ _ hg (by omega)).mono ?_
      rintro r w' ⟨g2, hg2, rfl, rfl⟩
      replace hg2 := hg2.cast hg0.out
      go_wp2_with fail
      refine (ref_Parted a g2 N _ _ ha hg2 hne h1 wgS).mono ?_
      rintro r w2 ⟨c, x, hc, hx, rfl, hb2⟩
      have hB2 := hb1.trans (hb2.mono hb1.size)
      go_wp2_with fail
      refine (ref_Parted b g2 D _ _ hb hg2 hne h2 wgS).mono ?_
      rintro r w3 ⟨d, y, hd, hy, rfl, hb3⟩
      have hB3 := hB2.trans (hb3.mono hB2.size)
      replace hc : IsI c (lowN N D) := hc
      replace hd : IsI d (lowD N D) := hd
      have sc := hc.size_le
      have sd := hd.size_le
      first
        | (have g0 := hd.is_one H1D.out
           go_wp2_with fail
           go_ret
           exact ⟨c, (HT.out c d hc hd).1 H1D.out, rfl, hB3⟩)
        | (have g0 := hd.not_one H1D.out
           have hz : (c ++ (⟨#[47]⟩ : ByteArray)).size = c.size + 1 := by rw [ByteArray.size_append]; rfl
           have hz2 : (c ++ (⟨#[47]⟩ : ByteArray)).size ≤ 20000000 := by omega
           clear hz
           go_wp2_with fail
           go_ret
           exact ⟨_, (HT.out c d hc hd).2 H1D.out, rfl, hB3⟩)
  · rcases h1d with h1d | h1d
    all_goals
      have H1D := Lib.hid h1d; clear h1d
      go_enter Tryz.func86, Tryz.ntmps86
      go_wp2_with fail
      refine (ref_Shared a b N D _ ha hb h1 h2).mono ?_
      rintro r w1 ⟨g, hg, rfl, hb1⟩
      replace hg := hg.cast hg0.out
      go_wp2_with fail
      refine (ref_Below b D _ hb).mono ?_
      rintro r w' ⟨rfl, rfl⟩
      go_wp2_with fail
      refine (ref_Parted a g N _ _ ha hg hne h1 wgS).mono ?_
      rintro r w2 ⟨c, x, hc, hx, rfl, hb2⟩
      have hB2 := hb1.trans (hb2.mono hb1.size)
      go_wp2_with fail
      refine (ref_Parted b g D _ _ hb hg hne h2 wgS).mono ?_
      rintro r w3 ⟨d, y, hd, hy, rfl, hb3⟩
      have hB3 := hB2.trans (hb3.mono hB2.size)
      replace hc : IsI c (lowN N D) := hc
      replace hd : IsI d (lowD N D) := hd
      have sc := hc.size_le
      have sd := hd.size_le
      first
        | (have g0 := hd.is_one H1D.out
           go_wp2_with fail
           go_ret
           exact ⟨c, (HT.out c d hc hd).1 H1D.out, rfl, hB3⟩)
        | (have g0 := hd.not_one H1D.out
           have hz : (c ++ (⟨#[47]⟩ : ByteArray)).size = c.size + 1 := by rw [ByteArray.size_append]; rfl
           have hz2 : (c ++ (⟨#[47]⟩ : ByteArray)).size ≤ 20000000 := by omega
           clear hz
           go_wp2_with fail
           go_ret
           exact ⟨_, (HT.out c d hc hd).2 H1D.out, rfl, hB3⟩)

end Go.Proofs.YtgkiaonakiflbaaGreatDoor

/- The contracts of metrolabref02's Make, pair, Signum, crossed, long. -/
namespace Go.Proofs.YtgkiaonakiflbaaGreatDoor
open Go.RowKit

theorem lowN_wid {N D : Int} (hD : D ≠ 0) : wid (lowN N D) ≤ wid N := wid_mono (fdiv_wid (low_spec N D hD).ne)
theorem lowD_wid {N D : Int} (hD : D ≠ 0) : wid (lowD N D) ≤ wid D := wid_mono (fdiv_wid (low_spec N D hD).ne)

theorem ref_Make (a b : ByteArray) (w : World) (h1 : a.size ≤ 140737488351232) (h2 : b.size ≤ 140737488351232) :
    Calls Tryz.prog 31 #[.string a, .string b] w (OpS (makeR a.toList b.toList) w) := by
  by_cases ha : chk a.toList = 0
  · by_cases hb : chk b.toList = 0
    · obtain ⟨ia, wa⟩ := chk_num ha
      obtain ⟨ib, wb⟩ := chk_num hb
      have hc2 : chk2 a.toList b.toList = 0 := by unfold chk2; rw [if_pos ha, hb]
      have hR : Hid (makeR a.toList b.toList = if num b.toList = 0 then ([], 10) else (rtext (lowN (num a.toList) (num b.toList)) (lowD (num a.toList) (num b.toList)), 0)) := by show _ = _; unfold makeR; rw [if_pos hc2]
      generalize num a.toList = x at *
      generalize num b.toList = y at *
      have HA := Lib.hid ha; have HB := Lib.hid hb; clear ha hb hc2
      by_cases hy : y = 0
      · have g0 := ib.is_zero hy
        have HF : Hid (makeR a.toList b.toList = ([], 10)) := by show _ = _; rw [hR.out, if_pos hy]
        clear hy
        go_enter Tryz.func31, Tryz.ntmps31
        go_wp2_with fail
        refine (ref_Check a _ h1).mono ?_
        rintro r w1 ⟨rfl, rfl⟩
        rw [HA.out]
        go_wp2_with fail
        refine (ref_Check b _ h2).mono ?_
        rintro r w1 ⟨rfl, rfl⟩
        rw [HB.out]
        go_wp2_with fail
        go_ret2
        rw [HF.out]
        exact ⟨_, toList_lit [], rfl, Below.refl _ _⟩
      · have g0 := ib.not_zero hy
        have HF : Hid (makeR a.toList b.toList = (rtext (lowN x y) (lowD x y), 0)) := by show _ = _; rw [hR.out, if_neg hy]
        go_enter Tryz.func31, Tryz.ntmps31
        go_wp2_with fail
        refine (ref_Check a _ h1).mono ?_
        rintro r w1 ⟨rfl, rfl⟩
        rw [HA.out]
        go_wp2_with fail
        refine (ref_Check b _ h2).mono ?_
        rintro r w1 ⟨rfl, rfl⟩
        rw [HB.out]
        go_wp2_with fail
        refine (ref_Lowest a b x y _ ia ib hy (by omega) (by omega)).mono ?_
        rintro r w2 ⟨c, hc, rfl, hb2⟩
        go_wp2_with fail
        go_ret2
        rw [HF.out]
        exact ⟨c, hc, rfl, hb2⟩
    · have HF : Hid (makeR a.toList b.toList = ([], chk b.toList)) := by
        show _ = _
        unfold makeR chk2
        rw [if_pos ha, if_neg hb]
      have t1 : (chk b.toList != 0) = true := by simp [hb]
      have HA := Lib.hid ha; clear ha hb
      go_enter Tryz.func31, Tryz.ntmps31
      go_wp2_with fail
      refine (ref_Check a _ h1).mono ?_
      rintro r w1 ⟨rfl, rfl⟩
      rw [HA.out]
      go_wp2_with fail
      refine (ref_Check b _ h2).mono ?_
      rintro r w1 ⟨rfl, rfl⟩
      go_wp2_with fail
      go_ret2
      rw [HF.out]
      exact ⟨_, toList_lit [], rfl, Below.refl _ _⟩
  · have HF : Hid (makeR a.toList b.toList = ([], chk a.toList)) := by
      show _ = _
      unfold makeR chk2
      rw [if_neg ha, if_neg ha]
    have t1 : (chk a.toList != 0) = true := by simp [ha]
    clear ha
    go_enter Tryz.func31, Tryz.ntmps31
    go_wp2_with fail
    refine (ref_Check a _ h1).mono ?_
    rintro r w1 ⟨rfl, rfl⟩
    go_wp2_with fail
    go_ret2
    rw [HF.out]
    exact ⟨_, toList_lit [], rfl, Below.refl _ _⟩

theorem ref_pair (a b : ByteArray) (w : World) (h1 : a.size ≤ 140737488300000) (h2 : b.size ≤ 140737488300000) :
    Calls Tryz.prog 69 #[.string a, .string b] w fun r w' => r = .returned (.int .i64 (chkR2 a.toList b.toList)) ∧ Below w.heap.size w w' := by
  by_cases ha : chkR a.toList = 0
  · have e1 : chkR2 a.toList b.toList = chkR b.toList := by unfold chkR2; rw [if_pos ha]
    rw [e1]
    have HA := Lib.hid ha; clear ha e1
    go_enter Tryz.func69, Tryz.ntmps69
    go_wp2_with fail
    refine (ref_CheckR a _ h1).mono ?_
    rintro r w1 ⟨rfl, hb1⟩
    rw [HA.out]
    go_wp2_with fail
    refine (ref_CheckR b _ h2).mono ?_
    rintro r w2 ⟨rfl, hb2⟩
    go_wp2_with fail
    go_ret
    exact ⟨rfl, hb1.trans (hb2.mono hb1.size)⟩
  · have e1 : chkR2 a.toList b.toList = chkR a.toList := by unfold chkR2; rw [if_neg ha]
    rw [e1]
    have t1 : (chkR a.toList != 0) = true := by simp [ha]
    clear ha e1
    go_enter Tryz.func69, Tryz.ntmps69
    go_wp2_with fail
    refine (ref_CheckR a _ h1).mono ?_
    rintro r w1 ⟨rfl, hb1⟩
    go_wp2_with fail
    go_ret
    exact ⟨rfl, hb1⟩

end Go.Proofs.YtgkiaonakiflbaaGreatDoor

/- The contracts of metrolabref02's Signum, crossed, long. -/
namespace Go.Proofs.YtgkiaonakiflbaaGreatDoor
open Go.RowKit

/-- A text of a quotient whose parts are not too long. -/
structure RB (K : Nat) (c : ByteArray) (n d : Int) : Prop where
  text : c.toList = rtext n d
  pos : 0 < d
  cop : Int.gcd n d = 1
  wn : wid n ≤ K
  wd : wid d ≤ K
theorem RR.rb {c : ByteArray} {n d : Int} (h : RR c n d) : RB 1024 c n d := ⟨h.text, h.pos, h.cop, h.wn, h.wd⟩
theorem RB.size {K : Nat} {c : ByteArray} {n d : Int} (h : RB K c n d) : c.size ≤ 2 * K + 10 := by
  rw [← toList_length, h.text]
  have h1 := itoa_length_le n
  have h2 := itoa_length_le d
  have h3 := h.wn
  have h4 := h.wd
  unfold rtext
  rw [List.length_append]
  split
  · simp; omega
  · simp; omega

theorem split_right (K : Nat) (a : ByteArray) (n p : Int) (w : World) (h : RB K a n p) (hK : K ≤ 10000000) :
    Calls Tryz.prog 56 #[.string a] w fun e w' => ∃ c d, IsI c n ∧ IsI d p ∧ e = .returned (.tuple #[.string c, .string d]) ∧ ∃ k, w' = w.drewN k := by
  refine (ref_Split a w (by have := h.size; omega)).mono ?_
  rintro e w' ⟨c, d, hc, hd, rfl, k, rfl⟩
  rw [h.text, cutN_rtext] at hc
  rw [h.text, cutD_rtext] at hd
  exact ⟨c, d, hc, hd, rfl, k, rfl⟩

theorem cmp_sgn (n : Int) : cmpZ n 0 = sgn n := by
  unfold cmpZ sgn
  repeat' split
  all_goals omega
theorem ref_Signum (K : Nat) (a : ByteArray) (n p : Int) (w : World) (h : RB K a n p) (hK : K ≤ 10000000) :
    Calls Tryz.prog 57 #[.string a] w fun e w' => e = .returned (.int .i64 (sgn n)) ∧ Below w.heap.size w w' := by
  have wn := h.wn
  go_enter Tryz.func57, Tryz.ntmps57
  go_wp2_with fail
  refine (split_right K a n p _ h hK).mono ?_
  rintro r w1 ⟨c, d, hc, hd, rfl, k, rfl⟩
  have hB : Below w.heap.size w (w.drewN k) := below_drewN (Below.refl _ _) k
  go_wp2_with fail
  refine (ref_Order c ⟨#[48]⟩ n 0 _ hc is_zero_text (by omega) (by have := wid_zero; omega)).mono ?_
  rintro r w2 ⟨rfl, hb2⟩
  go_wp2_with fail
  go_ret
  exact ⟨ret_int (cmp_sgn n), hB.trans (hb2.mono hB.size)⟩

/-- Five products in a row. -/
def Crossed (n p m q : Int) (w : World) (e : Ending) (w' : World) : Prop :=
  ∃ (b : Nat) (ss : List ByteArray), e = .returned (.slice (some ⟨b, 0, none⟩) 5 5) ∧ w.heap.size ≤ b ∧ Below w.heap.size w w' ∧ Row w' b 0 (strs ss) ∧
    ∃ c1 c2 c3 c4 c5, ss = [c1, c2, c3, c4, c5] ∧ IsI c1 (n * q) ∧ IsI c2 (m * p) ∧ IsI c3 (p * q) ∧ IsI c4 (n * m) ∧ IsI c5 (p * m)

set_option maxRecDepth 100000 in
theorem ref_crossed (K : Nat) (a b : ByteArray) (n p m q : Int) (w : World) (ha : RB K a n p) (hb : RB K b m q) (hK : K ≤ 10000000) :
    Calls Tryz.prog 70 #[.string a, .string b] w (Crossed n p m q w) := by
  have x1 := ha.wn; have x2 := ha.wd; have x3 := hb.wn; have x4 := hb.wd
  have y1 : wid n ≤ 100000000 := by omega
  have y2 : wid p ≤ 100000000 := by omega
  have y3 : wid m ≤ 100000000 := by omega
  have y4 : wid q ≤ 100000000 := by omega
  clear x1 x2 x3 x4
  go_enter Tryz.func70, Tryz.ntmps70
  go_wp2_with fail
  refine (split_right K a n p _ ha hK).mono ?_
  rintro r w1 ⟨cn, cp, hn, hp, rfl, k1, rfl⟩
  go_wp2_with fail
  refine (split_right K b m q _ hb hK).mono ?_
  rintro r w1 ⟨cm, cq, hm, hq, rfl, k2, rfl⟩
  have hB0 : Below w.heap.size w ((w.drewN k1).drewN k2) := below_drewN (below_drewN (Below.refl _ _) k1) k2
  generalize (w.drewN k1).drewN k2 = w0 at *
  go_wp2_with fail
  refine (ref_Times cn cq n q _ hn hq y1 y4).mono ?_
  rintro r w1 ⟨c1, h1, rfl, hb1⟩
  have hB1 := hB0.trans (hb1.mono hB0.size)
  go_wp2_with fail
  refine (ref_Times cm cp m p _ hm hp y3 y2).mono ?_
  rintro r w2 ⟨c2, h2, rfl, hb2⟩
  have hB2 := hB1.trans (hb2.mono hB1.size)
  go_wp2_with fail
  refine (ref_Times cp cq p q _ hp hq y2 y4).mono ?_
  rintro r w3 ⟨c3, h3, rfl, hb3⟩
  have hB3 := hB2.trans (hb3.mono hB2.size)
  go_wp2_with fail
  refine (ref_Times cn cm n m _ hn hm y1 y3).mono ?_
  rintro r w4 ⟨c4, h4, rfl, hb4⟩
  have hB4 := hB3.trans (hb4.mono hB3.size)
  go_wp2_with fail
  refine (ref_Times cp cm p m _ hp hm y2 y3).mono ?_
  rintro r w5 ⟨c5, h5, rfl, hb5⟩
  have hB5 := hB4.trans (hb5.mono hB4.size)
  go_wp2_with fail
  go_ret
  exact ⟨_, [c1, c2, c3, c4, c5], rfl, hB5.size, hB5.alloc hB5.size _, row_new w5 _ _, c1, c2, c3, c4, c5, rfl, h1, h2, h3, h4, h5⟩

end Go.Proofs.YtgkiaonakiflbaaGreatDoor

/- The contracts of metrolabref02's Plus, Minus, Times, By, Order. -/
namespace Go.Proofs.YtgkiaonakiflbaaGreatDoor
open Go.RowKit

theorem row_cells {w : World} {b : Nat} {c1 c2 c3 c4 c5 : ByteArray} (h : Row w b 0 (strs [c1, c2, c3, c4, c5])) :
    w.cell? ⟨b, 0, none⟩ = some (.string c1) ∧ w.cell? ⟨b, 1, none⟩ = some (.string c2) ∧ w.cell? ⟨b, 2, none⟩ = some (.string c3) ∧ w.cell? ⟨b, 3, none⟩ = some (.string c4) ∧ w.cell? ⟨b, 4, none⟩ = some (.string c5) :=
  ⟨h.2 0 (by simp [strs]), h.2 1 (by simp [strs]), h.2 2 (by simp [strs]), h.2 3 (by simp [strs]), h.2 4 (by simp [strs])⟩

set_option maxRecDepth 100000 in
set_option maxHeartbeats 1000000 in
theorem ref_PlusR (K : Nat) (a b : ByteArray) (n p m q : Int) (w : World) (ha : RB K a n p) (hb : RB K b m q) (hK : K ≤ 1000000) :
    Calls Tryz.prog 73 #[.string a, .string b] w (NewRat (lowN (n * q + m * p) (p * q)) (lowD (n * q + m * p) (p * q)) w) := by
  have u1 := wid_mul n q
  have u2 := wid_mul m p
  have u3 := wid_mul p q
  have u4 := wid_add (n * q) (m * p)
  have v1 := ha.wn; have v2 := ha.wd; have v3 := hb.wn; have v4 := hb.wd
  have y1 : wid (n * q) ≤ 100000000 := by omega
  have y2 : wid (m * p) ≤ 100000000 := by omega
  have y3 : wid (n * q + m * p) ≤ 10000000 := by omega
  have y4 : wid (p * q) ≤ 10000000 := by omega
  have hD : p * q ≠ 0 := by have := Int.mul_pos ha.pos hb.pos; omega
  clear u1 u2 u3 u4 v1 v2 v3 v4
  go_enter Tryz.func73, Tryz.ntmps73
  go_wp2_with fail
  refine (ref_crossed K a b n p m q _ ha hb (by omega)).mono ?_
  rintro r w1 ⟨bb, ss, rfl, hlo, hB1, hrow, c1, c2, c3, c4, c5, rfl, h1, h2, h3, h4, h5⟩
  obtain ⟨x0, x1, x2, x3, x4⟩ := row_cells hrow
  have hlt := hrow.1
  go_wp2_with fail
  go_region_held3 (fun w' => w'.cell? ⟨bb, 0, none⟩ = some (.string c1) ∧ w'.cell? ⟨bb, 1, none⟩ = some (.string c2) ∧ w'.cell? ⟨bb, 2, none⟩ = some (.string c3)) (go_keep)
    (first
      | (go_at_call 72; refine (ref_Plus c1 c2 _ _ _ h1 h2 y1 y2).mono ?_; rintro e w2 ⟨s1, hs1, rfl, hb2⟩; have z0 := (hb2.cell (p := ⟨bb, 0, none⟩) hlt).trans x0; have z1 := (hb2.cell (p := ⟨bb, 1, none⟩) hlt).trans x1; have z2 := (hb2.cell (p := ⟨bb, 2, none⟩) hlt).trans x2)
      | (go_at_call 86; refine (ref_Lowest s1 c3 _ _ _ hs1 h3 hD y3 y4).mono ?_; rintro e w3 ⟨s2, hs2, rfl, hb3⟩; have t0 := (hb3.cell (p := ⟨bb, 0, none⟩) (Nat.lt_of_lt_of_le hlt hb2.size)).trans z0; have t1 := (hb3.cell (p := ⟨bb, 1, none⟩) (Nat.lt_of_lt_of_le hlt hb2.size)).trans z1; have t2 := (hb3.cell (p := ⟨bb, 2, none⟩) (Nat.lt_of_lt_of_le hlt hb2.size)).trans z2))
  have hb2' : Below w1.heap.size w1 w2 := ⟨hb2.os, hb2.tape, hb2.output, hb2.size, hb2.block⟩
  have hB2 := hB1.trans (hb2'.mono hB1.size)
  go_wp2_with fail
  go_ret
  exact ⟨s2, hs2, rfl, hB2.trans (hb3.mono hB2.size)⟩

set_option maxRecDepth 100000 in
set_option maxHeartbeats 1000000 in
theorem ref_MinusR (K : Nat) (a b : ByteArray) (n p m q : Int) (w : World) (ha : RB K a n p) (hb : RB K b m q) (hK : K ≤ 1000000) :
    Calls Tryz.prog 76 #[.string a, .string b] w (NewRat (lowN (n * q - m * p) (p * q)) (lowD (n * q - m * p) (p * q)) w) := by
  have u1 := wid_mul n q
  have u2 := wid_mul m p
  have u3 := wid_mul p q
  have u4 := wid_sub (n * q) (m * p)
  have v1 := ha.wn; have v2 := ha.wd; have v3 := hb.wn; have v4 := hb.wd
  have y1 : wid (n * q) ≤ 100000000 := by omega
  have y2 : wid (m * p) ≤ 100000000 := by omega
  have y3 : wid (n * q - m * p) ≤ 10000000 := by omega
  have y4 : wid (p * q) ≤ 10000000 := by omega
  have hD : p * q ≠ 0 := by have := Int.mul_pos ha.pos hb.pos; omega
  clear u1 u2 u3 u4 v1 v2 v3 v4
  go_enter Tryz.func76, Tryz.ntmps76
  go_wp2_with fail
  refine (ref_crossed K a b n p m q _ ha hb (by omega)).mono ?_
  rintro r w1 ⟨bb, ss, rfl, hlo, hB1, hrow, c1, c2, c3, c4, c5, rfl, h1, h2, h3, h4, h5⟩
  obtain ⟨x0, x1, x2, x3, x4⟩ := row_cells hrow
  have hlt := hrow.1
  go_wp2_with fail
  go_region_held3 (fun w' => w'.cell? ⟨bb, 0, none⟩ = some (.string c1) ∧ w'.cell? ⟨bb, 1, none⟩ = some (.string c2) ∧ w'.cell? ⟨bb, 2, none⟩ = some (.string c3)) (go_keep)
    (first
      | (go_at_call 75; refine (ref_Minus c1 c2 _ _ _ h1 h2 y1 y2).mono ?_; rintro e w2 ⟨s1, hs1, rfl, hb2⟩; have z0 := (hb2.cell (p := ⟨bb, 0, none⟩) hlt).trans x0; have z1 := (hb2.cell (p := ⟨bb, 1, none⟩) hlt).trans x1; have z2 := (hb2.cell (p := ⟨bb, 2, none⟩) hlt).trans x2)
      | (go_at_call 86; refine (ref_Lowest s1 c3 _ _ _ hs1 h3 hD y3 y4).mono ?_; rintro e w3 ⟨s2, hs2, rfl, hb3⟩; have t0 := (hb3.cell (p := ⟨bb, 0, none⟩) (Nat.lt_of_lt_of_le hlt hb2.size)).trans z0; have t1 := (hb3.cell (p := ⟨bb, 1, none⟩) (Nat.lt_of_lt_of_le hlt hb2.size)).trans z1; have t2 := (hb3.cell (p := ⟨bb, 2, none⟩) (Nat.lt_of_lt_of_le hlt hb2.size)).trans z2))
  have hb2' : Below w1.heap.size w1 w2 := ⟨hb2.os, hb2.tape, hb2.output, hb2.size, hb2.block⟩
  have hB2 := hB1.trans (hb2'.mono hB1.size)
  go_wp2_with fail
  go_ret
  exact ⟨s2, hs2, rfl, hB2.trans (hb3.mono hB2.size)⟩

set_option maxRecDepth 100000 in
set_option maxHeartbeats 1000000 in
theorem ref_TimesR (K : Nat) (a b : ByteArray) (n p m q : Int) (w : World) (ha : RB K a n p) (hb : RB K b m q) (hK : K ≤ 1000000) (hD : p * q ≠ 0) :
    Calls Tryz.prog 78 #[.string a, .string b] w (NewRat (lowN (n * m) (p * q)) (lowD (n * m) (p * q)) w) := by
  have u1 := wid_mul n m
  have u2 := wid_mul p q
  have v1 := ha.wn; have v2 := ha.wd; have v3 := hb.wn; have v4 := hb.wd
  have y1 : wid (n * m) ≤ 10000000 := by omega
  have y2 : wid (p * q) ≤ 10000000 := by omega
  clear u1 u2 v1 v2 v3 v4
  go_enter Tryz.func78, Tryz.ntmps78
  go_wp2_with fail
  refine (ref_crossed K a b n p m q _ ha hb (by omega)).mono ?_
  rintro r w1 ⟨bb, ss, rfl, hlo, hB1, hrow, c1, c2, c3, c4, c5, rfl, h1, h2, h3, h4, h5⟩
  obtain ⟨x0, x1, x2, x3, x4⟩ := row_cells hrow
  have hlt := hrow.1
  go_wp2_with fail
  go_region_held3 (fun w' => w'.cell? ⟨bb, 3, none⟩ = some (.string c4) ∧ w'.cell? ⟨bb, 2, none⟩ = some (.string c3)) (go_keep)
    (first
      | (go_at_call 86; refine (ref_Lowest c4 c3 _ _ _ h4 h3 hD y1 y2).mono ?_; rintro e w3 ⟨s2, hs2, rfl, hb3⟩; have t0 := (hb3.cell (p := ⟨bb, 3, none⟩) hlt).trans x3; have t1 := (hb3.cell (p := ⟨bb, 2, none⟩) hlt).trans x2))
  have hb3' : Below w1.heap.size w1 w3 := ⟨hb3.os, hb3.tape, hb3.output, hb3.size, hb3.block⟩
  go_wp2_with fail
  go_ret
  exact ⟨s2, hs2, rfl, hB1.trans (hb3'.mono hB1.size)⟩

set_option maxRecDepth 100000 in
set_option maxHeartbeats 1000000 in
theorem ref_ByR (K : Nat) (a b : ByteArray) (n p m q : Int) (w : World) (ha : RB K a n p) (hb : RB K b m q) (hK : K ≤ 1000000) (hD : p * m ≠ 0) :
    Calls Tryz.prog 80 #[.string a, .string b] w (NewRat (lowN (n * q) (p * m)) (lowD (n * q) (p * m)) w) := by
  have u1 := wid_mul n q
  have u2 := wid_mul p m
  have v1 := ha.wn; have v2 := ha.wd; have v3 := hb.wn; have v4 := hb.wd
  have y1 : wid (n * q) ≤ 10000000 := by omega
  have y2 : wid (p * m) ≤ 10000000 := by omega
  clear u1 u2 v1 v2 v3 v4
  go_enter Tryz.func80, Tryz.ntmps80
  go_wp2_with fail
  refine (ref_crossed K a b n p m q _ ha hb (by omega)).mono ?_
  rintro r w1 ⟨bb, ss, rfl, hlo, hB1, hrow, c1, c2, c3, c4, c5, rfl, h1, h2, h3, h4, h5⟩
  obtain ⟨x0, x1, x2, x3, x4⟩ := row_cells hrow
  have hlt := hrow.1
  go_wp2_with fail
  go_region_held3 (fun w' => w'.cell? ⟨bb, 0, none⟩ = some (.string c1) ∧ w'.cell? ⟨bb, 4, none⟩ = some (.string c5)) (go_keep)
    (first
      | (go_at_call 86; refine (ref_Lowest c1 c5 _ _ _ h1 h5 hD y1 y2).mono ?_; rintro e w3 ⟨s2, hs2, rfl, hb3⟩; have t0 := (hb3.cell (p := ⟨bb, 0, none⟩) hlt).trans x0; have t1 := (hb3.cell (p := ⟨bb, 4, none⟩) hlt).trans x4))
  have hb3' : Below w1.heap.size w1 w3 := ⟨hb3.os, hb3.tape, hb3.output, hb3.size, hb3.block⟩
  go_wp2_with fail
  go_ret
  exact ⟨s2, hs2, rfl, hB1.trans (hb3'.mono hB1.size)⟩

set_option maxRecDepth 100000 in
set_option maxHeartbeats 1000000 in
theorem ref_OrderR (K : Nat) (a b : ByteArray) (n p m q : Int) (w : World) (ha : RB K a n p) (hb : RB K b m q) (hK : K ≤ 1000000) :
    Calls Tryz.prog 82 #[.string a, .string b] w fun r w' => r = .returned (.int .i64 (cmpZ (n * q) (m * p))) ∧ Below w.heap.size w w' := by
  have u1 := wid_mul n q
  have u2 := wid_mul m p
  have v1 := ha.wn; have v2 := ha.wd; have v3 := hb.wn; have v4 := hb.wd
  have y1 : wid (n * q) ≤ 100000000 := by omega
  have y2 : wid (m * p) ≤ 100000000 := by omega
  clear u1 u2 v1 v2 v3 v4
  go_enter Tryz.func82, Tryz.ntmps82
  go_wp2_with fail
  refine (ref_crossed K a b n p m q _ ha hb (by omega)).mono ?_
  rintro r w1 ⟨bb, ss, rfl, hlo, hB1, hrow, c1, c2, c3, c4, c5, rfl, h1, h2, h3, h4, h5⟩
  obtain ⟨x0, x1, x2, x3, x4⟩ := row_cells hrow
  have hlt := hrow.1
  go_wp2_with fail
  go_region_held3 (fun w' => w'.cell? ⟨bb, 0, none⟩ = some (.string c1) ∧ w'.cell? ⟨bb, 1, none⟩ = some (.string c2)) (go_keep)
    (first
      | (go_at_call 87; refine (ref_Order c1 c2 _ _ _ h1 h2 y1 y2).mono ?_; rintro e w3 ⟨rfl, hb3⟩; have t0 := (hb3.cell (p := ⟨bb, 0, none⟩) hlt).trans x0; have t1 := (hb3.cell (p := ⟨bb, 1, none⟩) hlt).trans x1))
  have hb3' : Below w1.heap.size w1 w3 := ⟨hb3.os, hb3.tape, hb3.output, hb3.size, hb3.block⟩
  go_wp2_with fail
  go_ret
  exact ⟨rfl, hB1.trans (hb3'.mono hB1.size)⟩

end Go.Proofs.YtgkiaonakiflbaaGreatDoor

/- The contract of metrolabref02's long. -/
namespace Go.Proofs.YtgkiaonakiflbaaGreatDoor
open Go.RowKit

/-- Whether one of some integers is too long. -/
def anyLong (zs : List Int) : Bool := !zs.all (fun z => decide (wid z ≤ 1024))
theorem anyLong_cons (z : Int) (t : List Int) : anyLong (z :: t) = (!decide (wid z ≤ 1024) || anyLong t) := by
  unfold anyLong; rw [List.all_cons, Bool.not_and]

set_option maxRecDepth 100000 in
set_option maxHeartbeats 1000000 in
theorem ref_long (b off n c : Nat) (ss : List ByteArray) (zs : List Int) (w : World) (hn : zs.length = n) (hl : ss.length = n) (hn1 : n ≤ 4096)
    (hz : ∀ i (h : i < ss.length) (h' : i < zs.length), IsI ss[i] zs[i] ∧ wid zs[i] ≤ 100000000) (hr : Row w b off (strs ss)) :
    Calls Tryz.prog 71 #[.slice (some ⟨b, off, none⟩) n c] w fun r w' => r = .returned (.bool (anyLong zs)) ∧ w = w' := by
  have Hn := Lib.hid hn; have Hl := Lib.hid hl; clear hn hl
  go_enter Tryz.func71, Tryz.ntmps71
  go_wp2_with fail
  go_loopw [3] (fun i wr => ∃ k : Nat, k ≤ n ∧ i = .int .i64 (k : Int) ∧ wr = w ∧ Hid (anyLong zs = anyLong (zs.drop k))) (fun i _ => n - (intOf i).toNat)
  case atStart => exact ⟨0, by omega, rfl, rfl, rfl⟩
  case round =>
    obtain ⟨k, hk, rfl, rfl, hfe⟩ := hrel
    by_cases hlt : k < n
    · have hk1 : k < ss.length := by have := Hl.out; omega
      have hk2 : k < zs.length := by have := Hn.out; omega
      obtain ⟨hs, hw⟩ := hz k hk1 hk2
      have hcell : wr.cell? ⟨b, off + k, none⟩ = some (.string ss[k]) := by
        have := hr.2 k (by simpa [strs] using hk1)
        rw [this]; simp [strs]
      have hdr : zs.drop k = zs[k] :: zs.drop (k + 1) := List.drop_eq_getElem_cons hk2
      rw [hdr, anyLong_cons] at hfe
      generalize ss[k] = s at *
      generalize zs[k] = z at *
      have hsz := hs.size_le
      have hsz2 : s.size ≤ 140737488351232 := by omega
      clear hdr hsz
      by_cases h0 : wid z ≤ 1024
      · have hc := hs.chk0 h0
        rw [decide_eq_true h0] at hfe
        have HF : Hid (anyLong zs = anyLong (zs.drop (k + 1))) := by show _ = _; rw [hfe.out]; rfl
        have HC := Lib.hid hc
        clear h0 hc hfe hk1 hk2
        go_wp2_with fail
        refine (ref_Check s _ hsz2).mono ?_
        rintro r w1 ⟨rfl, rfl⟩
        rw [HC.out]
        go_wp2_with fail
        exact ⟨⟨k + 1, by omega, by go_num, trivial, HF.out⟩, by simp [intOf]; omega⟩
      · have hc := hs.chk11 h0
        rw [decide_eq_false h0] at hfe
        have HF : Hid (anyLong zs = true) := by show _ = _; rw [hfe.out]; rfl
        have HC := Lib.hid hc
        clear h0 hc hfe hk1 hk2
        go_wp2_with fail
        refine (ref_Check s _ hsz2).mono ?_
        rintro r w1 ⟨rfl, rfl⟩
        rw [HC.out]
        go_wp2_with fail
        go_ret
        exact ⟨ret_bool HF.out.symm, rfl⟩
    · have HF : Hid (anyLong zs = false) := by
        show _ = _
        rw [hfe.out, List.drop_eq_nil_of_le (by have := Hn.out; omega)]; rfl
      clear hfe
      go_wp2_with fail
      go_ret
      exact ⟨ret_bool HF.out.symm, rfl⟩

end Go.Proofs.YtgkiaonakiflbaaGreatDoor

/- The contracts of metrolabref02's Compare (Add .. follow). -/
namespace Go.Proofs.YtgkiaonakiflbaaGreatDoor
open Go.RowKit

theorem row_take {w : World} {b : Nat} {c1 c2 c3 c4 c5 : ByteArray} (h : Row w b 0 (strs [c1, c2, c3, c4, c5])) : Row w b 0 (strs [c1, c2]) :=
  ⟨h.1, fun i hi => match i, hi with
    | 0, _ => h.2 0 (by simp [strs])
    | 1, _ => h.2 1 (by simp [strs])
    | i + 2, hi => absurd hi (by simp [strs])⟩

set_option maxRecDepth 100000 in
set_option maxHeartbeats 1000000 in
theorem ref_CompareR (a b : ByteArray) (w : World) (h1 : a.size ≤ 140737488300000) (h2 : b.size ≤ 140737488300000) :
    Calls Tryz.prog 28 #[.string a, .string b] w (OpI (cmpR a.toList b.toList) w) := by
  by_cases hc : chkR2 a.toList b.toList = 0
  · have ha : chkR a.toList = 0 := by unfold chkR2 at hc; split at hc <;> assumption
    have hb : chkR b.toList = 0 := by unfold chkR2 at hc; rw [if_pos ha] at hc; exact hc
    have ra := RR.of_chk ha
    have rb := RR.of_chk hb
    have hgoal : cmpR a.toList b.toList = if wid (numOf a.toList * denOf b.toList) ≤ 1024 ∧ wid (numOf b.toList * denOf a.toList) ≤ 1024 then (cmpZ (numOf a.toList * denOf b.toList) (numOf b.toList * denOf a.toList), 0) else (0, 11) := by unfold cmpR; rw [if_pos hc]
    rw [ra.numOf, ra.denOf, rb.numOf, rb.denOf] at hgoal
    have HG := Lib.hid hgoal; have HC := Lib.hid hc
    clear hgoal hc
    generalize num (cutN a.toList) = n at *
    generalize num (cutD a.toList) = p at *
    generalize num (cutN b.toList) = m at *
    generalize num (cutD b.toList) = q at *
    have w1' : wid (n * q) ≤ 100000000 := Nat.le_trans (wid_mul n q) (by have := ra.wn; have := rb.wd; omega)
    have w2' : wid (m * p) ≤ 100000000 := Nat.le_trans (wid_mul m p) (by have := ra.wd; have := rb.wn; omega)
    by_cases hl : wid (n * q) ≤ 1024 ∧ wid (m * p) ≤ 1024
    all_goals
      have hal : anyLong [n * q, m * p] = !decide (wid (n * q) ≤ 1024 ∧ wid (m * p) ≤ 1024) := by unfold anyLong; simp
      go_enter Tryz.func28, Tryz.ntmps28
      go_wp2_with fail
      refine (ref_pair a b _ h1 h2).mono ?_
      rintro e w1 ⟨rfl, hb1⟩
      rw [HC.out]
      go_wp2_with fail
      refine (ref_crossed 1024 a b n p m q _ ra.rb rb.rb (by omega)).mono ?_
      rintro r w2 ⟨bb, ss, rfl, hlo, hB2, hrow, c1, c2, c3, c4, c5, rfl, i1, i2, i3, i4, i5⟩
      go_wp2_with fail
      refine (ref_long bb 0 2 5 [c1, c2] [n * q, m * p] _ rfl rfl (by omega) (fun i h h' => match i, h with
        | 0, _ => ⟨i1, w1'⟩
        | 1, _ => ⟨i2, w2'⟩
        | i + 2, h => absurd h (by simp)) (row_take hrow)).mono ?_
      rintro r w3 ⟨rfl, rfl⟩
      have hB := hb1.trans (hB2.mono hb1.size)
      first
        | (have hd : anyLong [n * q, m * p] = false := by rw [hal, decide_eq_true hl]; rfl
           have HF : Hid (cmpR a.toList b.toList = (cmpZ (n * q) (m * p), 0)) := by show _ = _; rw [HG.out, if_pos hl]
           rw [hd]
           clear hd hal hl
           go_wp2_with fail
           refine (ref_OrderR 1024 a b n p m q _ ra.rb rb.rb (by omega)).mono ?_
           rintro r w4 ⟨rfl, hb4⟩
           go_wp2_with fail
           go_ret2
           rw [HF.out]
           exact ⟨rfl, hB.trans (hb4.mono hB.size)⟩)
        | (have hd : anyLong [n * q, m * p] = true := by rw [hal, decide_eq_false hl]; rfl
           have HF : Hid (cmpR a.toList b.toList = (0, 11)) := by show _ = _; rw [HG.out, if_neg hl]
           rw [hd]
           clear hd hal hl
           go_wp2_with fail
           go_ret2
           rw [HF.out]
           exact ⟨rfl, hB⟩)
  · have hgoal : cmpR a.toList b.toList = (0, chkR2 a.toList b.toList) := by unfold cmpR; rw [if_neg hc]
    rw [hgoal]
    have t1 : (chkR2 a.toList b.toList != 0) = true := by simp [hc]
    clear hc hgoal
    go_enter Tryz.func28, Tryz.ntmps28
    go_wp2_with fail
    refine (ref_pair a b _ h1 h2).mono ?_
    rintro e w1 ⟨rfl, hb1⟩
    go_wp2_with fail
    go_ret2
    exact ⟨rfl, hb1⟩

end Go.Proofs.YtgkiaonakiflbaaGreatDoor
