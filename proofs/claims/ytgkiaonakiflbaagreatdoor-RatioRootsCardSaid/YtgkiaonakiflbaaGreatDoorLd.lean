/- The law RatioRoots: the walk. -/
import Derived.Test.YtgkiaonakiflbaaGreatDoorTc
import Derived.Test.YtgkiaonakiflbaaGreatDoorLc
namespace Go.Proofs.YtgkiaonakiflbaaGreatDoor
open Go.RowKit

theorem any_short {ss : List ByteArray} (h : (ss.any fun s => !shortb s.toList) = false) : ∀ s ∈ ss, shortB s.toList ∧ s.size ≤ 1000000 := by
  intro s hs
  rw [List.any_eq_false] at h
  have := h s hs
  have h1 : shortb s.toList = true := by simpa using this
  have h2 := (shortb_iff _).1 h1
  exact ⟨h2, h2.size⟩

set_option maxRecDepth 100000 in
set_option maxHeartbeats 4000000 in
theorem law_roots (a b c d e : ByteArray) (w : World) (hE : Env w) (hs : ∀ s ∈ [a, b, c, d, e], s.size ≤ 140737488351232) :
    Calls Tryz.prog 3 #[.agg #[.string a, .string b, .string c, .string d, .string e]] w fun r w' => r = .returned (.bool true) ∧ Below w.heap.size w w' := by
  have ht : Tests 11 (fun s => !shortb s.toList) [a, b, c, d, e] := fun s h wx => roots_test s wx (hs s h)
  have HT := Lib.hid ht; clear ht
  rcases (show ([a, b, c, d, e].any fun s => !shortb s.toList) = true ∨ ([a, b, c, d, e].any fun s => !shortb s.toList) = false by cases ([a, b, c, d, e].any fun s => !shortb s.toList) <;> simp) with hf | hf
  · have HF := Lib.hid hf; clear hf
    go_enter Tryz.func3, Tryz.ntmps3
    go_wp2_with fail
    have hrow : Row (w.alloc (.cells #[.string a, .string b, .string c, .string d, .string e] 23)) w.heap.size 0 (strs [a, b, c, d, e]) := row_new w _ _
    have hB0 : Below w.heap.size w (w.alloc (.cells #[.string a, .string b, .string c, .string d, .string e] 23)) := (Below.refl w.heap.size w).alloc (Nat.le_refl _) _
    generalize w.alloc (.cells #[.string a, .string b, .string c, .string d, .string e] 23) = W0 at *
    obtain ⟨bb, hbb⟩ : ∃ bb, bb = w.heap.size := ⟨_, rfl⟩
    rw [← hbb] at hrow ⊢
    have Hbb := Lib.hid hbb; clear hbb
    refine (contains_func 11 (.inl rfl) (fun s => !shortb s.toList) bb 0 5 5 [a, b, c, d, e] _ rfl (by omega) hrow HT.out).mono ?_
    rintro r w0 ⟨rfl, hb0⟩
    have hB0' := hB0.trans (hb0.mono hB0.size)
    have hE0 := hE.below hB0'
    have hrow0 := hrow.below hb0
    rw [HF.out]
    go_wp2_with fail
    refine (law_awake _ hE0).mono ?_
    rintro r w1 ⟨rfl, hb1⟩
    go_wp2_with fail
    go_ret
    exact ⟨rfl, hB0'.trans (hb1.mono hB0'.size)⟩
  · have hsh := any_short hf
    have HF := Lib.hid hf; clear hf
    have hsh3 : ∀ s ∈ [a, b, c], shortB s.toList ∧ s.size ≤ 1000000 := fun s h => hsh s (by
      simp only [List.mem_cons, List.not_mem_nil, or_false] at h ⊢
      rcases h with h | h | h
      · exact .inl h
      · exact .inr (.inl h)
      · exact .inr (.inr (.inl h)))
    have A1 := fun wx (h : Env wx) => ratio_SignRoot a b c wx h hsh3
    have A2 := fun wx => ref_SignRoot a b c wx hsh3
    have A3 := fun wx (h : Env wx) => ratio_SignRoots a b c d e wx h hsh
    have A4 := fun wx => ref_SignRoots a b c d e wx hsh
    generalize signRootR a b c = F1 at *
    generalize signRootsR a b c d e = F2 at *
    obtain ⟨f1, f2⟩ := F1
    obtain ⟨f3, f4⟩ := F2
    have H1 := Lib.hid A1; have H2 := Lib.hid A2; have H3 := Lib.hid A3; have H4 := Lib.hid A4
    clear A1 A2 A3 A4 hsh hsh3
    go_enter Tryz.func3, Tryz.ntmps3
    go_wp2_with fail
    have hrow : Row (w.alloc (.cells #[.string a, .string b, .string c, .string d, .string e] 23)) w.heap.size 0 (strs [a, b, c, d, e]) := row_new w _ _
    have hB0 : Below w.heap.size w (w.alloc (.cells #[.string a, .string b, .string c, .string d, .string e] 23)) := (Below.refl w.heap.size w).alloc (Nat.le_refl _) _
    generalize w.alloc (.cells #[.string a, .string b, .string c, .string d, .string e] 23) = W0 at *
    obtain ⟨bb, hbb⟩ : ∃ bb, bb = w.heap.size := ⟨_, rfl⟩
    rw [← hbb] at hrow ⊢
    have Hbb := Lib.hid hbb; clear hbb
    refine (contains_func 11 (.inl rfl) (fun s => !shortb s.toList) bb 0 5 5 [a, b, c, d, e] _ rfl (by omega) hrow HT.out).mono ?_
    rintro r w0 ⟨rfl, hb0⟩
    have hB0' := hB0.trans (hb0.mono hB0.size)
    have hE0 := hE.below hB0'
    have hrow0 := hrow.below hb0
    rw [HF.out]
    obtain ⟨x00, x01, x02, x03, x04⟩ := row_cells hrow0
    go_wp2_with fail
    refine (H1.out _ hE0).mono ?_
    rintro r w1 ⟨rfl, hb1⟩
    have hB1 := hB0'.trans (hb1.mono hB0'.size)
    have hE1 := hE.below hB1
    have hrow1 := hrow0.below hb1
    obtain ⟨x10, x11, x12, x13, x14⟩ := row_cells hrow1
    go_wp2_with fail
    refine (H2.out _).mono ?_
    rintro r w2 ⟨rfl, hb2⟩
    have hB2 := hB1.trans (hb2.mono hB1.size)
    have hE2 := hE.below hB2
    have hrow2 := hrow1.below hb2
    obtain ⟨x20, x21, x22, x23, x24⟩ := row_cells hrow2
    go_wp2_with fail
    refine (H3.out _ hE2).mono ?_
    rintro r w3 ⟨rfl, hb3⟩
    have hB3 := hB2.trans (hb3.mono hB2.size)
    have hE3 := hE.below hB3
    have hrow3 := hrow2.below hb3
    obtain ⟨x30, x31, x32, x33, x34⟩ := row_cells hrow3
    go_wp2_with fail
    refine (H4.out _).mono ?_
    rintro r w4 ⟨rfl, hb4⟩
    have hB4 := hB3.trans (hb4.mono hB3.size)
    have hE4 := hE.below hB4
    have hrow4 := hrow3.below hb4
    go_wp2_with fail
    refine (law_awake _ hE4).mono ?_
    rintro r w5 ⟨rfl, hb5⟩
    have hB5 := hB4.trans (hb5.mono hB4.size)
    have hE5 := hE.below hB5
    have hrow5 := hrow4.below hb5
    go_wp2_with fail
    go_ret
    exact ⟨rfl, hB5⟩

end Go.Proofs.YtgkiaonakiflbaaGreatDoor
