/- The law RatioSums: the walk. -/
import Derived.Test.YtgkiaonakiflbaaGreatDoorLc
import Derived.Test.YtgkiaonakiflbaaGreatDoorTb
namespace Go.Proofs.YtgkiaonakiflbaaGreatDoor
open Go.RowKit

/-- Sum and the reference's Sum answer alike, or nothing is asked. -/
theorem sums_alike (sl : Value) (F : Bytes × Int) (w : World) (hE : Env w)
    (h0 : ∀ wx, Below w.heap.size w wx → Calls Tryz.prog 36 #[sl] wx fun r w' => r = .returned (.bool true) ∧ wx = w')
    (h1 : ∀ wx, Below w.heap.size w wx → Env wx → Calls Tryz.prog 37 #[sl] wx (OpS F wx))
    (h2 : ∀ wx, Below w.heap.size w wx → Calls Tryz.prog 38 #[sl] wx (OpS F wx)) :
    Calls Tryz.prog 6 #[sl] w fun r w' => r = .returned (.bool true) ∧ Below w.heap.size w w' := by
  have H0 := Lib.hid h0; have H1 := Lib.hid h1; have H2 := Lib.hid h2; clear h0 h1 h2
  obtain ⟨f1, f2⟩ := F
  go_enter Tryz.func6, Tryz.ntmps6
  go_wp2_with fail
  refine (H0.out _ (Below.refl _ _)).mono ?_
  rintro r w' ⟨rfl, rfl⟩
  go_wp2_with fail
  refine (H1.out _ (Below.refl _ _) hE).mono ?_
  rintro r w1 ⟨x, hx, rfl, hb1⟩
  go_wp2_with fail
  refine (H2.out _ hb1).mono ?_
  rintro r w2 ⟨y, hy, rfl, hb2⟩
  have hB2 := hb1.trans (hb2.mono hb1.size)
  have q1 := same_text hx hy
  go_wp2_with fail
  refine (law_awake _ (hE.below hB2)).mono ?_
  rintro r w3 ⟨rfl, hb3⟩
  go_wp2_with fail
  go_ret
  exact ⟨rfl, hB2.trans (hb3.mono hB2.size)⟩
theorem law_sums (b off n c : Nat) (ss : List ByteArray) (w : World) (hE : Env w) (hn : ss.length = n) (hmax : n ≤ 140737488351232) (hf : ∀ s ∈ ss, s.size ≤ 140737488351232) (hr : Row w b off (strs ss)) :
    Calls Tryz.prog 6 #[.slice (some ⟨b, off, none⟩) n c] w fun r w' => r = .returned (.bool true) ∧ Below w.heap.size w w' := by
  have hfa := fun wx (h : Below w.heap.size w wx) => ref_FewAll b off n c ss wx hn hmax hf (hr.below h)
  by_cases hb : fewAllb ss = true
  · rw [hb] at hfa
    unfold fewAllb at hb
    rw [hn] at hb
    by_cases h40 : n ≤ 40
    · have ht : totL ss ≤ 200 := by
        simp at hb
        rcases hb with h | h
        · rw [← List.take_of_length_le (l := ss) (i := 40) (by omega)]; exact h.2
        · omega
      have hs : ∀ s ∈ ss, s.size ≤ 200 := fun s h => Nat.le_trans (mem_totL h) ht
      exact sums_alike _ (sumR ss) w hE hfa (fun wx h he => ratio_Sum b off n c ss wx he hn (by omega) (fun s hs' => by have := hs s hs'; omega) (hr.below h)) (fun wx h => ref_SumR b off n c ss wx hn (by omega) (fun s hs' => by have := hs s hs'; omega) (hr.below h))
    · have hm : 4096 < n ∧ n < 8192 := by
        simp at hb
        rcases hb with h | h
        · omega
        · exact h
      exact sums_alike _ ([], 5) w hE hfa (fun wx _ _ => ratio_Sum_many _ n c wx hm.1 (by omega)) (fun wx _ => ref_Sum_many _ n c wx hm.1 (by omega))
  · have hb' : fewAllb ss = false := by simpa using hb
    rw [hb'] at hfa
    have H0 := Lib.hid hfa; clear hfa hb hb'
    go_enter Tryz.func6, Tryz.ntmps6
    go_wp2_with fail
    refine (H0.out _ (Below.refl _ _)).mono ?_
    rintro r w' ⟨rfl, rfl⟩
    go_wp2_with fail
    refine (law_awake _ hE).mono ?_
    rintro r w3 ⟨rfl, hb3⟩
    go_wp2_with fail
    go_ret
    exact ⟨rfl, hb3⟩
theorem law_sums_none (a : Option Addr) (c : Nat) (w : World) (hE : Env w) :
    Calls Tryz.prog 6 #[.slice a 0 c] w fun r w' => r = .returned (.bool true) ∧ Below w.heap.size w w' :=
  sums_alike _ ([48], 0) w hE (fun wx _ => ref_FewAll_none a c wx) (fun wx _ _ => ratio_Sum_none a c wx) (fun wx _ => ref_Sum_none a c wx)

end Go.Proofs.YtgkiaonakiflbaaGreatDoor
