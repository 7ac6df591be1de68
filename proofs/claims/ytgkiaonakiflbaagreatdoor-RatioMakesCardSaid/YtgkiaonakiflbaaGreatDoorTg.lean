/- The contract of metrolabref01's Small. -/
import Derived.Test.YtgkiaonakiflbaaGreatDoorTb
namespace Go.Proofs.YtgkiaonakiflbaaGreatDoor
open Go.RowKit

def smallR (s : Bytes) : Int × Int := if chk s = 0 then (if 9223372036854775807 < num s ∨ num s < -9223372036854775808 then (0, 2) else (num s, 0)) else (0, chk s)

theorem dval_prefix (l : Bytes) (j : Nat) : dval (l.take j) ≤ dval l := by
  have h : dval l = dval (l.take j) * 10 ^ (l.drop j).length + dval (l.drop j) := by
    rw [← dval_append, List.take_append_drop]
  have h1 : 1 ≤ 10 ^ (l.drop j).length := Nat.one_le_pow _ _ (by omega)
  have h2 : dval (l.take j) * 1 ≤ dval (l.take j) * 10 ^ (l.drop j).length := Nat.mul_le_mul_left _ h1
  omega
theorem dval_next {l : Bytes} {j : Nat} (h : j < l.length) : dval (l.take (j + 1)) = 10 * dval (l.take j) + digv l[j] := by
  rw [List.take_succ_eq_append_getElem h, dval_snoc]
theorem cmp_gt_iff {x y : Int} : 0 < cmpZ x y ↔ y < x := by
  unfold cmpZ
  repeat' split
  all_goals omega
theorem cmp_lt_iff {x y : Int} : cmpZ x y < 0 ↔ x < y := by
  unfold cmpZ
  repeat' split
  all_goals omega

set_option maxRecDepth 100000 in
set_option maxHeartbeats 1000000 in
theorem ref_Small (a : ByteArray) (w : World) (hs : a.size ≤ 140737488351232) :
    Calls Tryz.prog 32 #[.string a] w (OpI (smallR a.toList) w) := by
  by_cases hc : chk a.toList = 0
  · obtain ⟨ia, wa⟩ := chk_num hc
    have hG : smallR a.toList = if 9223372036854775807 < num a.toList ∨ num a.toList < -9223372036854775808 then (0, 2) else (num a.toList, 0) := by unfold smallR; rw [if_pos hc]
    generalize num a.toList = z at *
    generalize smallR a.toList = res at *
    have HG := Lib.hid hG; have HC := Lib.hid hc; clear hG hc
    have wm : wid 9223372036854775807 ≤ 100000000 := Nat.le_trans (wid_le_of (k := 20) (by omega) (by decide)) (by omega)
    have wn : wid (-9223372036854775808) ≤ 100000000 := Nat.le_trans (wid_le_of (k := 20) (by omega) (by decide)) (by omega)
    have wz : wid z ≤ 100000000 := by omega
    have WM := Lib.hid wm; have WN := Lib.hid wn; have WZ := Lib.hid wz; clear wm wn wz
    by_cases h1 : 9223372036854775807 < z
    · have HF : Hid (res = (0, 2)) := by show _ = _; rw [HG.out, if_pos (.inl h1)]
      have g1 : decide (0 < cmpZ z 9223372036854775807) = true := decide_eq_true (cmp_gt_iff.2 h1)
      clear h1 HG
      go_enter Tryz.func32, Tryz.ntmps32
      go_wp2_with fail
      refine (ref_Check a _ hs).mono ?_
      rintro r w1 ⟨rfl, rfl⟩
      rw [HC.out]
      go_wp2_with fail
      refine (ref_Of 9223372036854775807 _ (by omega) (by omega)).mono ?_
      rintro r w2 ⟨c, hc, rfl, hb2⟩
      go_wp2_with fail
      refine (ref_Order a c z _ _ ia hc WZ.out WM.out).mono ?_
      rintro r w3 ⟨rfl, hb3⟩
      have hB3 := hb2.trans (hb3.mono hb2.size)
      go_wp2_with fail
      go_ret2
      rw [HF.out]
      exact ⟨rfl, hB3⟩
    · have g1 : decide (0 < cmpZ z 9223372036854775807) = false := decide_eq_false (fun h => h1 (cmp_gt_iff.1 h))
      by_cases h2 : z < -9223372036854775808
      · have HF : Hid (res = (0, 2)) := by show _ = _; rw [HG.out, if_pos (.inr h2)]
        have g2 : decide (cmpZ z (-9223372036854775808) < 0) = true := decide_eq_true (cmp_lt_iff.2 h2)
        clear h1 h2 HG
        go_enter Tryz.func32, Tryz.ntmps32
        go_wp2_with fail
        refine (ref_Check a _ hs).mono ?_
        rintro r w1 ⟨rfl, rfl⟩
        rw [HC.out]
        go_wp2_with fail
        refine (ref_Of 9223372036854775807 _ (by omega) (by omega)).mono ?_
        rintro r w2 ⟨c, hc, rfl, hb2⟩
        go_wp2_with fail
        refine (ref_Order a c z _ _ ia hc WZ.out WM.out).mono ?_
        rintro r w3 ⟨rfl, hb3⟩
        have hB3 := hb2.trans (hb3.mono hb2.size)
        go_wp2_with fail
        refine (ref_Of (-9223372036854775808) _ (by omega) (by omega)).mono ?_
        rintro r w4 ⟨d, hd, rfl, hb4⟩
        have hB4 := hB3.trans (hb4.mono hB3.size)
        go_wp2_with fail
        refine (ref_Order a d z _ _ ia hd WZ.out WN.out).mono ?_
        rintro r w5 ⟨rfl, hb5⟩
        have hB5 := hB4.trans (hb5.mono hB4.size)
        go_wp2_with fail
        go_ret2
        rw [HF.out]
        exact ⟨rfl, hB5⟩
      · have HF : Hid (res = (z, 0)) := by show _ = _; rw [HG.out, if_neg (by omega)]
        have g2 : decide (cmpZ z (-9223372036854775808) < 0) = false := decide_eq_false (fun h => h2 (cmp_lt_iff.1 h))
        have zhi : z ≤ 9223372036854775807 := by omega
        have zlo : -9223372036854775808 ≤ z := by omega
        have ZB : Hid (z ≤ 9223372036854775807 ∧ -9223372036854775808 ≤ z) := ⟨zhi, zlo⟩
        clear h1 h2 HG zhi zlo
        rcases (show (z < 0 ∧ decide (z < 0) = true) ∨ (0 ≤ z ∧ decide (z < 0) = false) by
          by_cases h : z < 0
          · exact .inl ⟨h, decide_eq_true h⟩
          · exact .inr ⟨by omega, decide_eq_false h⟩) with ⟨hz, gz⟩ | ⟨hz, gz⟩
        all_goals
          have HZ := Lib.hid hz; have GZ := Lib.hid gz; clear hz gz
          go_enter Tryz.func32, Tryz.ntmps32
          go_wp2_with fail
          refine (ref_Check a _ hs).mono ?_
          rintro r w1 ⟨rfl, rfl⟩
          rw [HC.out]
          go_wp2_with fail
          refine (ref_Of 9223372036854775807 _ (by omega) (by omega)).mono ?_
          rintro r w2 ⟨c, hc, rfl, hb2⟩
          go_wp2_with fail
          refine (ref_Order a c z _ _ ia hc WZ.out WM.out).mono ?_
          rintro r w3 ⟨rfl, hb3⟩
          have hB3 := hb2.trans (hb3.mono hb2.size)
          go_wp2_with fail
          refine (ref_Of (-9223372036854775808) _ (by omega) (by omega)).mono ?_
          rintro r w4 ⟨d, hd, rfl, hb4⟩
          have hB4 := hB3.trans (hb4.mono hB3.size)
          go_wp2_with fail
          refine (ref_Order a d z _ _ ia hd WZ.out WN.out).mono ?_
          rintro r w5 ⟨rfl, hb5⟩
          have hB5 := hB4.trans (hb5.mono hB4.size)
          go_wp2_with fail
          refine (ref_sizeI a z _ ia hs).mono ?_
          rintro r w6 ⟨s, hsM, hss, rfl, rfl⟩
          have hdig : Hid (∀ c ∈ s.toList, isDig c = true) := show ∀ c ∈ s.toList, isDig c = true by rw [hsM.out]; exact decDigits_all _
          have hval : Hid (dval s.toList = z.natAbs) := by show _ = _; rw [hsM.out, dval_decDigits]
          have hss2 : s.size ≤ 1024 := by omega
          clear hsM hss
          go_wp2_with fail
        · go_loopw [5, 7] (fun v i wr => ∃ (k : Nat) (x : Int), k ≤ s.size ∧ v = .int .i64 x ∧ i = .int .i64 (k : Int) ∧ wr = w5 ∧ Hid (x = -(dval (s.toList.take k) : Int))) (fun _ i _ => s.size - (intOf i).toNat)
          case atStart => exact ⟨0, 0, by omega, rfl, rfl, rfl, by show _ = _; simp [dval_nil]⟩
          case round =>
            obtain ⟨k, x, hk, rfl, rfl, rfl, hx⟩ := hrel
            by_cases hlt : k < s.size
            · have hkl : k < s.toList.length := by rw [toList_length]; exact hlt
              have e1 := dval_next hkl
              have e2 := dval_prefix s.toList (k + 1)
              have e3 := hval.out
              have e4 := ZB.out
              have e5 := HZ.out
              have ed := (isDig_iff _).1 (hdig.out _ (List.getElem_mem hkl))
              have eb : s.toList[k] = s[k] := by
                have := byte_at s k hlt
                rw [List.getElem?_eq_getElem hkl] at this
                exact Option.some.inj this
              rw [eb] at e1 ed
              unfold digv at e1
              have hx0 := hx.out
              obtain ⟨g, hg⟩ : ∃ g : Nat, g = s[k].toNat := ⟨_, rfl⟩
              rw [← hg] at e1 ed
              have b1 : -9223372036854775808 ≤ 10 * x := by omega
              have b2 : x ≤ 0 := by omega
              have b3 : -9223372036854775808 ≤ 10 * x - ((s[k].toNat : Int) - 48) := by rw [← hg]; omega
              have b4 : 48 ≤ (s[k].toNat : Int) := by rw [← hg]; omega
              have b5 : (s[k].toNat : Int) ≤ 57 := by rw [← hg]; omega
              have hn : Hid (10 * x - ((s[k].toNat : Int) - 48) = -(dval (s.toList.take (k + 1)) : Int)) := by show _ = _; rw [← hg]; omega
              clear e1 e2 e3 e4 e5 ed eb hx0 hg hx hkl
              go_wp2_with fail
              refine (ref_Below a z _ ia).mono ?_
              rintro r w7 ⟨rfl, rfl⟩
              rw [GZ.out]
              go_wp2_with fail
              exact ⟨⟨k + 1, _, by omega, rfl, by go_num, trivial, hn.out⟩, by simp [intOf]; omega⟩
            · have hfin : Hid (x = z) := by
                show _ = _
                rw [hx.out, List.take_of_length_le (by rw [toList_length]; omega), hval.out]
                have := HZ.out; omega
              clear hx
              go_wp2_with fail
              go_ret2
              rw [HF.out]
              rw [hfin.out]
              exact ⟨rfl, hB5⟩
        · go_loopw [5, 7] (fun v i wr => ∃ (k : Nat) (x : Int), k ≤ s.size ∧ v = .int .i64 x ∧ i = .int .i64 (k : Int) ∧ wr = w5 ∧ Hid (x = (dval (s.toList.take k) : Int))) (fun _ i _ => s.size - (intOf i).toNat)
          case atStart => exact ⟨0, 0, by omega, rfl, rfl, rfl, by show _ = _; simp [dval_nil]⟩
          case round =>
            obtain ⟨k, x, hk, rfl, rfl, rfl, hx⟩ := hrel
            by_cases hlt : k < s.size
            · have hkl : k < s.toList.length := by rw [toList_length]; exact hlt
              have e1 := dval_next hkl
              have e2 := dval_prefix s.toList (k + 1)
              have e3 := hval.out
              have e4 := ZB.out
              have e5 := HZ.out
              have ed := (isDig_iff _).1 (hdig.out _ (List.getElem_mem hkl))
              have eb : s.toList[k] = s[k] := by
                have := byte_at s k hlt
                rw [List.getElem?_eq_getElem hkl] at this
                exact Option.some.inj this
              rw [eb] at e1 ed
              unfold digv at e1
              have hx0 := hx.out
              obtain ⟨g, hg⟩ : ∃ g : Nat, g = s[k].toNat := ⟨_, rfl⟩
              rw [← hg] at e1 ed
              have b1 : 10 * x ≤ 9223372036854775807 := by omega
              have b2 : 0 ≤ x := by omega
              have b3 : 10 * x + ((s[k].toNat : Int) - 48) ≤ 9223372036854775807 := by rw [← hg]; omega
              have b4 : 48 ≤ (s[k].toNat : Int) := by rw [← hg]; omega
              have b5 : (s[k].toNat : Int) ≤ 57 := by rw [← hg]; omega
              have hn : Hid (10 * x + ((s[k].toNat : Int) - 48) = (dval (s.toList.take (k + 1)) : Int)) := by show _ = _; rw [← hg]; omega
              clear e1 e2 e3 e4 e5 ed eb hx0 hg hx hkl
              go_wp2_with fail
              refine (ref_Below a z _ ia).mono ?_
              rintro r w7 ⟨rfl, rfl⟩
              rw [GZ.out]
              go_wp2_with fail
              exact ⟨⟨k + 1, _, by omega, rfl, by go_num, trivial, hn.out⟩, by simp [intOf]; omega⟩
            · have hfin : Hid (x = z) := by
                show _ = _
                rw [hx.out, List.take_of_length_le (by rw [toList_length]; omega), hval.out]
                have := HZ.out; omega
              clear hx
              go_wp2_with fail
              go_ret2
              rw [HF.out]
              rw [hfin.out]
              exact ⟨rfl, hB5⟩
  · have hG : smallR a.toList = (0, chk a.toList) := by unfold smallR; rw [if_neg hc]
    rw [hG]
    have t1 : (chk a.toList != 0) = true := by simp [hc]
    clear hc hG
    go_enter Tryz.func32, Tryz.ntmps32
    go_wp2_with fail
    refine (ref_Check a _ hs).mono ?_
    rintro r w1 ⟨rfl, rfl⟩
    go_wp2_with fail
    go_ret2
    exact ⟨rfl, Below.refl _ _⟩

end Go.Proofs.YtgkiaonakiflbaaGreatDoor
