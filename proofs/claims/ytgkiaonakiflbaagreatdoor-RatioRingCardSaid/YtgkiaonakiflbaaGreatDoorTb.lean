/- The contracts of metrolabref02's Sum, FewAll, Whole, and of sums of too many or of no numbers. -/
import Derived.Test.YtgkiaonakiflbaaGreatDoorSn
namespace Go.Proofs.YtgkiaonakiflbaaGreatDoor
open Go.RowKit

theorem addR_size {a b : Bytes} (h : (addR a b).2 = 0) : (addR a b).1.length ≤ 5000 := by
  unfold addR arith at *
  dsimp only at h ⊢
  by_cases hc : chkR2 a b = 0
  · rw [if_pos hc] at h ⊢
    generalize numOf a = n at *
    generalize denOf a = p at *
    generalize numOf b = m at *
    generalize denOf b = q at *
    unfold opRes at *
    split at h
    · rename_i hl
      rw [if_pos hl]
      split at h
      · exact absurd h (by decide)
      · rename_i hD
        rw [if_neg hD]
        rw [List.all_eq_true] at hl
        have w1 : wid (n * q + m * p) ≤ 1024 := by simpa using hl (n * q + m * p) (by simp)
        have w2 : wid (p * q) ≤ 1024 := by simpa using hl (p * q) (by simp)
        have u1 := lowN_wid (N := n * q + m * p) hD
        have u2 := lowD_wid (N := n * q + m * p) hD
        generalize lowN (n * q + m * p) (p * q) = x at *
        generalize lowD (n * q + m * p) (p * q) = y at *
        have e1 := itoa_length_le x
        have e2 := itoa_length_le y
        show (rtext x y).length ≤ 5000
        unfold rtext
        rw [List.length_append]
        split
        · simp; omega
        · rw [List.length_cons]; omega
    · exact absurd h (by decide)
  · rw [if_neg hc] at h
    exact absurd h hc

set_option maxRecDepth 100000 in
set_option maxHeartbeats 1000000 in
theorem ref_SumR (b off n c : Nat) (ss : List ByteArray) (w : World) (hn : ss.length = n) (hmax : n ≤ 4096) (hf : ∀ s ∈ ss, s.size ≤ 140737488300000) (hr : Row w b off (strs ss)) :
    Calls Tryz.prog 38 #[.slice (some ⟨b, off, none⟩) n c] w (OpS (sumR ss) w) := by
  have Hn := Lib.hid hn; clear hn
  go_enter Tryz.func38, Tryz.ntmps38
  go_wp2_with fail
  go_loopw [4] (fun i wr => ∃ k : Nat, k ≤ n ∧ i = .int .i64 (k : Int) ∧ Below w.heap.size w wr ∧ Hid (firstErr chkR ss = firstErr chkR (ss.drop k))) (fun i _ => n - (intOf i).toNat)
  case atStart => exact ⟨0, by omega, rfl, Below.refl _ _, rfl⟩
  case round =>
    obtain ⟨k, hk, rfl, hbr, hfe⟩ := hrel
    by_cases hlt : k < n
    · have hkl : k < ss.length := by have := Hn.out; omega
      obtain ⟨s, hs⟩ : ∃ s, s = ss[k] := ⟨_, rfl⟩
      have hcell : wr.cell? ⟨b, off + k, none⟩ = some (.string s) := by
        have := (hr.below hbr).2 k (by simpa [strs] using hkl)
        rw [this, hs]; simp [strs]
      have hsz := hf s (by rw [hs]; exact List.getElem_mem hkl)
      have hdr := firstErr_drop (f := chkR) hkl
      rw [← hs] at hdr
      have HD := Lib.hid hdr
      clear hs hdr
      by_cases he : chkR s.toList = 0
      · have He := Lib.hid he; clear he
        have g1 : (chkR s.toList != 0) = false := by simp [He.out]
        go_wp2_with fail
        refine (ref_CheckR s _ hsz).mono ?_
        rintro e w' ⟨rfl, hb1⟩
        rw [He.out]
        go_wp2_with fail
        exact ⟨⟨k + 1, by omega, by go_num, hbr.trans (hb1.mono hbr.size), by
          refine Eq.trans hfe.out ?_
          rw [HD.out, if_pos He.out]⟩, by simp [intOf]; omega⟩
      · have g1 : (chkR s.toList != 0) = true := by simp [he]
        have hfin : sumR ss = ([], chkR s.toList) := by
          have h3 := hfe.out
          rw [HD.out, if_neg he] at h3
          unfold sumR
          rw [if_neg (by rw [h3]; exact he), h3]
        have HF := Lib.hid hfin; clear hfin he
        go_wp2_with fail
        refine (ref_CheckR s _ hsz).mono ?_
        rintro e w' ⟨rfl, hb1⟩
        go_wp2_with fail
        go_ret2
        rw [HF.out]
        exact ⟨_, toList_lit [], rfl, hbr.trans (hb1.mono hbr.size)⟩
    · have hz : firstErr chkR ss = 0 := by rw [hfe.out, List.drop_eq_nil_of_le (by have := Hn.out; omega)]; rfl
      have HS : Hid (sumR ss = foldR [48] ss) := by show _ = _; unfold sumR; rw [if_pos hz]
      clear hz hfe
      go_wp2_with fail
      go_loopw [6, 7] (fun o i wr2 => ∃ (k : Nat) (a : ByteArray), k ≤ n ∧ o = .string a ∧ i = .int .i64 (k : Int) ∧ a.size ≤ 5000 ∧ Hid (sumR ss = foldR a.toList (ss.drop k)) ∧ Below w.heap.size w wr2) (fun _ i _ => n - (intOf i).toNat)
      case atStart => exact ⟨0, _, Nat.zero_le _, rfl, rfl, by decide, by show _ = _; rw [HS.out, List.drop_zero, toList_lit], hbr⟩
      case round =>
        obtain ⟨k2, a, hk2, rfl, rfl, hra, hfo, hbr2⟩ := hrel
        by_cases hlt2 : k2 < n
        · have hkl : k2 < ss.length := by have := Hn.out; omega
          have hdr : ss.drop k2 = ss[k2] :: ss.drop (k2 + 1) := List.drop_eq_getElem_cons hkl
          obtain ⟨s, hs⟩ : ∃ s, s = ss[k2] := ⟨_, rfl⟩
          have hcell : wr.cell? ⟨b, off + k2, none⟩ = some (.string s) := by
            have := (hr.below hbr2).2 k2 (by simpa [strs] using hkl)
            rw [this, hs]; simp [strs]
          have hsz := hf s (by rw [hs]; exact List.getElem_mem hkl)
          rw [hdr, ← hs] at hfo
          clear hdr hs
          by_cases h0 : (addR a.toList s.toList).2 = 0
          · have hf2 : sumR ss = foldR (addR a.toList s.toList).1 (ss.drop (k2 + 1)) := by rw [hfo.out, foldR_cons, if_pos h0]
            have HF := Lib.hid hf2; have H0 := Lib.hid h0; clear hf2 h0
            go_wp2_with fail
            refine (ref_AddR a s _ (by omega) hsz).mono ?_
            rintro r w2 ⟨q, hq, rfl, hb2⟩
            have hq5 : q.size ≤ 5000 := by rw [hq.size]; exact addR_size H0.out
            rw [H0.out]
            rw [← hq.out] at HF
            go_wp2_with fail
            exact ⟨⟨k2 + 1, q, by omega, rfl, by go_num, hq5, HF.out, hbr2.trans (hb2.mono hbr2.size)⟩, by simp [intOf]; omega⟩
          · have hf2 : sumR ss = ([], (addR a.toList s.toList).2) := by rw [hfo.out, foldR_cons, if_neg h0]
            have HF := Lib.hid hf2
            have t1 : ((addR a.toList s.toList).2 != 0) = true := by simp [h0]
            clear hf2 h0
            go_wp2_with fail
            refine (ref_AddR a s _ (by omega) hsz).mono ?_
            rintro r w2 ⟨q, hq, rfl, hb2⟩
            go_wp2_with fail
            go_ret2
            rw [HF.out]
            exact ⟨_, toList_lit [], rfl, hbr2.trans (hb2.mono hbr2.size)⟩
        · have hkn : ss.drop k2 = [] := List.drop_eq_nil_of_le (by have := Hn.out; omega)
          rw [hkn] at hfo
          clear hkn
          go_wp2_with fail
          go_ret2
          rw [hfo.out]
          exact ⟨a, rfl, rfl, hbr2⟩

/-! No numbers, and too many. -/
theorem checks_empty (a : Option Addr) (c : Nat) (w : World) :
    Calls Tryz.prog 59 #[.slice a 0 c] w fun e w' => e = .returned (.int .i64 0) ∧ w' = w := by
  go_enter Tryz.func59, Tryz.ntmps59
  go_wp2_with fail
  go_loopw [8] (fun i wr => i = .int .i64 0 ∧ wr = w) (fun _ _ => 0)
  case atStart => exact ⟨rfl, rfl⟩
  case round =>
    obtain ⟨rfl, rfl⟩ := hrel
    go_wp2_with fail
    go_ret
    exact ⟨rfl, rfl⟩
theorem ratio_Sum_none (a : Option Addr) (c : Nat) (w : World) :
    Calls Tryz.prog 37 #[.slice a 0 c] w (OpS ([48], 0) w) := by
  go_enter Tryz.func37, Tryz.ntmps37
  go_wp2_with fail
  refine (checks_empty a c _).mono ?_
  rintro r w1 ⟨rfl, rfl⟩
  go_wp2_with fail
  go_loopw [5, 20] (fun o i wr => o = .string ⟨#[48]⟩ ∧ i = .int .i64 0 ∧ wr = w1) (fun _ _ _ => 0)
  case atStart => exact ⟨rfl, rfl, rfl⟩
  case round =>
    obtain ⟨rfl, rfl, rfl⟩ := hrel
    go_wp2_with fail
    go_ret2
    exact ⟨_, toList_lit _, rfl, Below.refl _ _⟩
theorem ref_Sum_none (a : Option Addr) (c : Nat) (w : World) :
    Calls Tryz.prog 38 #[.slice a 0 c] w (OpS ([48], 0) w) := by
  go_enter Tryz.func38, Tryz.ntmps38
  go_wp2_with fail
  go_loopw [4] (fun i wr => i = .int .i64 0 ∧ wr = w) (fun _ _ => 0)
  case atStart => exact ⟨rfl, rfl⟩
  case round =>
    obtain ⟨rfl, rfl⟩ := hrel
    go_wp2_with fail
    go_loopw [6, 7] (fun o i wr2 => o = .string ⟨#[48]⟩ ∧ i = .int .i64 0 ∧ wr2 = wr) (fun _ _ _ => 0)
    case atStart => exact ⟨rfl, rfl, rfl⟩
    case round =>
      obtain ⟨rfl, rfl, rfl⟩ := hrel
      go_wp2_with fail
      go_ret2
      exact ⟨_, toList_lit _, rfl, Below.refl _ _⟩
theorem ratio_Sum_many (a : Option Addr) (n c : Nat) (w : World) (h : 4096 < n) (h' : n ≤ 140737488351232) :
    Calls Tryz.prog 37 #[.slice a n c] w (OpS ([], 5) w) := by
  have g1 : decide (4096 < (n : Int)) = true := decide_eq_true (by omega)
  go_enter Tryz.func37, Tryz.ntmps37
  go_wp2_with fail
  go_ret2
  exact ⟨_, toList_lit [], rfl, Below.refl _ _⟩
theorem ref_Sum_many (a : Option Addr) (n c : Nat) (w : World) (h : 4096 < n) (h' : n ≤ 140737488351232) :
    Calls Tryz.prog 38 #[.slice a n c] w (OpS ([], 5) w) := by
  have g1 : decide (4096 < (n : Int)) = true := decide_eq_true (by omega)
  go_enter Tryz.func38, Tryz.ntmps38
  go_wp2_with fail
  go_ret2
  exact ⟨_, toList_lit [], rfl, Below.refl _ _⟩

/-- The bytes of texts together. -/
def totL (ss : List ByteArray) : Nat := (ss.map ByteArray.size).sum
theorem totL_take {ss : List ByteArray} {k : Nat} (h : k < ss.length) : totL (ss.take (k + 1)) = totL (ss.take k) + ss[k].size := by
  unfold totL
  rw [List.take_succ_eq_append_getElem h, List.map_append, List.sum_append]
  simp
theorem totL_le (ss : List ByteArray) (B : Nat) (h : ∀ s ∈ ss, s.size ≤ B) : totL ss ≤ ss.length * B := by
  induction ss with
  | nil => simp [totL]
  | cons a t ih =>
    have h1 := ih (fun s hs => h s (List.mem_cons_of_mem _ hs))
    have h2 := h a (List.mem_cons_self ..)
    unfold totL at *
    rw [List.map_cons, List.sum_cons, List.length_cons, Nat.succ_mul]
    omega
theorem mem_totL : ∀ {ss : List ByteArray} {s : ByteArray}, s ∈ ss → s.size ≤ totL ss
  | a :: t, s, hs => by
    unfold totL
    rw [List.map_cons, List.sum_cons]
    rcases List.mem_cons.1 hs with e | e
    · rw [e]; omega
    · have := mem_totL e; unfold totL at this; omega
def fewAllb (ss : List ByteArray) : Bool := (decide (ss.length ≤ 40) && decide (totL (ss.take 40) ≤ 200)) || (decide (4096 < ss.length) && decide (ss.length < 8192))

set_option maxRecDepth 100000 in
set_option maxHeartbeats 1000000 in
theorem ref_FewAll (b off n c : Nat) (ss : List ByteArray) (w : World) (hn : ss.length = n) (hmax : n ≤ 140737488351232) (hf : ∀ s ∈ ss, s.size ≤ 140737488351232) (hr : Row w b off (strs ss)) :
    Calls Tryz.prog 36 #[.slice (some ⟨b, off, none⟩) n c] w fun r w' => r = .returned (.bool (fewAllb ss)) ∧ w = w' := by
  have Hn := Lib.hid hn; clear hn
  go_enter Tryz.func36, Tryz.ntmps36
  go_wp2_with fail
  go_loopw [3, 4] (fun o i wr => ∃ k t : Nat, k ≤ n ∧ k ≤ 40 ∧ o = .int .i64 (t : Int) ∧ i = .int .i64 (k : Int) ∧ wr = w ∧ Hid (t = totL (ss.take k)) ∧ t ≤ k * 140737488351232) (fun _ i _ => n - (intOf i).toNat)
  case atStart => exact ⟨0, 0, by omega, by omega, rfl, rfl, rfl, by show _ = _; simp [totL], by omega⟩
  case round =>
    obtain ⟨k, t, hk, hk40, rfl, rfl, rfl, ht, htb⟩ := hrel
    by_cases hlt : k < n ∧ k < 40
    · obtain ⟨hl1, hl2⟩ := hlt
      have hkl : k < ss.length := by have := Hn.out; omega
      obtain ⟨s, hs⟩ : ∃ s, s = ss[k] := ⟨_, rfl⟩
      have hcell : wr.cell? ⟨b, off + k, none⟩ = some (.string s) := by
        have := hr.2 k (by simpa [strs] using hkl)
        rw [this, hs]; simp [strs]
      have hsz := hf s (by rw [hs]; exact List.getElem_mem hkl)
      have hT : Hid (t + s.size = totL (ss.take (k + 1))) := by show _ = _; rw [totL_take hkl, ← ht.out, hs]
      clear hs
      have g1 : decide ((k : Int) < n) = true := decide_eq_true (by omega)
      have g2 : decide ((k : Int) < 40) = true := decide_eq_true (by omega)
      have g3 : decide (k < n) = true := decide_eq_true hl1
      have g4 : decide (k < 40) = true := decide_eq_true hl2
      go_wp2_with fail
      exact ⟨⟨k + 1, t + s.size, by omega, by omega, by go_num, by go_num, trivial, hT.out, by omega⟩, by simp [intOf]; omega⟩
    · have hT : Hid (t = totL (ss.take 40)) := by
        show _ = _
        rw [ht.out]
        by_cases h40 : k = 40
        · rw [h40]
        · have hkn : k = ss.length := by have := Hn.out; omega
          rw [List.take_of_length_le (by omega), List.take_of_length_le (by omega)]
      have hF : fewAllb ss = ((decide (n ≤ 40) && decide (t ≤ 200)) || (decide (4096 < n) && decide (n < 8192))) := by unfold fewAllb; rw [Hn.out, ← hT.out]
      have HF0 := Lib.hid hF; clear hF ht hT
      by_cases hl1 : k < n
      all_goals
        first
          | (have g0 : decide ((k : Int) < n) = true := decide_eq_true (by omega)
             have g0' : decide (k < n) = true := decide_eq_true (by omega)
             have g9 : decide ((k : Int) < 40) = false := decide_eq_false (by omega)
             have g9' : decide (k < 40) = false := decide_eq_false (by omega))
          | (have g0 : decide ((k : Int) < n) = false := decide_eq_false (by omega)
             have g0' : decide (k < n) = false := decide_eq_false (by omega))
        by_cases h1 : n ≤ 40
        · have g1 : decide ((n : Int) ≤ 40) = true := decide_eq_true (by omega)
          have g1' : decide (n ≤ 40) = true := decide_eq_true h1
          by_cases h2 : t ≤ 200
          · have g2 : decide ((t : Int) ≤ 200) = true := decide_eq_true (by omega)
            have g2' : decide (t ≤ 200) = true := decide_eq_true h2
            have HF : Hid (fewAllb ss = true) := by show _ = _; rw [HF0.out, g1', g2']; rfl
            clear HF0
            go_wp2_with fail
            go_ret
            exact ⟨ret_bool HF.out.symm, rfl⟩
          · have g2 : decide ((t : Int) ≤ 200) = false := decide_eq_false (by omega)
            have g2' : decide (t ≤ 200) = false := decide_eq_false h2
            have g3 : decide (4096 < (n : Int)) = false := decide_eq_false (by omega)
            have g3' : decide (4096 < n) = false := decide_eq_false (by omega)
            have HF : Hid (fewAllb ss = false) := by show _ = _; rw [HF0.out, g1', g2', g3']; rfl
            clear HF0
            go_wp2_with fail
            go_ret
            exact ⟨ret_bool HF.out.symm, rfl⟩
        · have g1 : decide ((n : Int) ≤ 40) = false := decide_eq_false (by omega)
          have g1' : decide (n ≤ 40) = false := decide_eq_false h1
          by_cases h2 : 4096 < n
          · have g3 : decide (4096 < (n : Int)) = true := decide_eq_true (by omega)
            have g3' : decide (4096 < n) = true := decide_eq_true h2
            by_cases h3 : n < 8192
            · have g4 : decide ((n : Int) < 8192) = true := decide_eq_true (by omega)
              have g4' : decide (n < 8192) = true := decide_eq_true h3
              have HF : Hid (fewAllb ss = true) := by show _ = _; rw [HF0.out, g1', g3', g4']; rfl
              clear HF0
              go_wp2_with fail
              go_ret
              exact ⟨ret_bool HF.out.symm, rfl⟩
            · have g4 : decide ((n : Int) < 8192) = false := decide_eq_false (by omega)
              have g4' : decide (n < 8192) = false := decide_eq_false h3
              have HF : Hid (fewAllb ss = false) := by show _ = _; rw [HF0.out, g1', g3', g4']; rfl
              clear HF0
              go_wp2_with fail
              go_ret
              exact ⟨ret_bool HF.out.symm, rfl⟩
          · have g3 : decide (4096 < (n : Int)) = false := decide_eq_false (by omega)
            have g3' : decide (4096 < n) = false := decide_eq_false h2
            have HF : Hid (fewAllb ss = false) := by show _ = _; rw [HF0.out, g1', g3']; rfl
            clear HF0
            go_wp2_with fail
            go_ret
            exact ⟨ret_bool HF.out.symm, rfl⟩
theorem ref_FewAll_none (a : Option Addr) (c : Nat) (w : World) :
    Calls Tryz.prog 36 #[.slice a 0 c] w fun r w' => r = .returned (.bool true) ∧ w = w' := by
  go_enter Tryz.func36, Tryz.ntmps36
  go_wp2_with fail
  go_loopw [3, 4] (fun o i wr => o = .int .i64 0 ∧ i = .int .i64 0 ∧ wr = w) (fun _ _ _ => 0)
  case atStart => exact ⟨rfl, rfl, rfl⟩
  case round =>
    obtain ⟨rfl, rfl, rfl⟩ := hrel
    go_wp2_with fail
    go_ret
    exact ⟨rfl, rfl⟩

theorem ref_WholeR (n : Int) (h0 : -9223372036854775808 ≤ n) (h1 : n ≤ 9223372036854775807) (w : World) :
    Calls Tryz.prog 35 #[.int .i64 n] w (NewText n w) := by
  go_enter Tryz.func35, Tryz.ntmps35
  go_wp2_with fail
  refine (ref_Of n _ h0 h1).mono ?_
  rintro e w1 ⟨c, hc, rfl, hb⟩
  go_wp2_with fail
  go_ret
  exact ⟨c, hc, rfl, hb⟩

end Go.Proofs.YtgkiaonakiflbaaGreatDoor
