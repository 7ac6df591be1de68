/- The contracts of slices.ContainsFunc over texts, and of the laws' closures; opening an array of five texts. -/
import Derived.Test.YtgkiaonakiflbaaGreatDoorTb
import Derived.Test.YtgkiaonakiflbaaGreatDoorLb
namespace Go.Proofs.YtgkiaonakiflbaaGreatDoor
open Go.RowKit Go.WideShapes Go.ChangeShapes Go.ChangeAt

/-- A closure that answers bad s at each of some texts. -/
def Tests (F : Nat) (bad : ByteArray → Bool) (ss : List ByteArray) : Prop :=
  ∀ s ∈ ss, ∀ wx : World, Calls Tryz.prog F #[.string s] wx fun r w' => r = .returned (.bool (bad s)) ∧ Below wx.heap.size wx w'

set_option maxRecDepth 100000 in
set_option maxHeartbeats 1000000 in
theorem index_func (F : Nat) (hF : F = 11 ∨ F = 100) (bad : ByteArray → Bool) (b off n c : Nat) (ss : List ByteArray) (w : World) (hn : ss.length = n) (hmax : n ≤ 4096) (hr : Row w b off (strs ss)) (ht : Tests F bad ss) :
    Calls Tryz.prog 55 #[.slice (some ⟨b, off, none⟩) n c, .func (.func F) #[] #[]] w fun r w' => ∃ v : Int, r = .returned (.int .i64 v) ∧ decide (0 ≤ v) = ss.any bad ∧ -1 ≤ v ∧ v ≤ 4096 ∧ Below w.heap.size w w' := by
  have Hn := Lib.hid hn; have HT := Lib.hid ht; clear hn ht
  rcases hF with rfl | rfl
  all_goals
    go_enter Tryz.func55, Tryz.ntmps55
    go_wp2_with fail
    go_loopw [8] (fun i wr => ∃ k : Nat, k ≤ n ∧ i = .int .i64 (k : Int) ∧ Below w.heap.size w wr ∧ Hid (ss.any bad = (ss.drop k).any bad)) (fun i _ => n - (intOf i).toNat)
    case atStart => exact ⟨0, by omega, rfl, Below.refl _ _, rfl⟩
    case round =>
      obtain ⟨k, hk, rfl, hbr, hfe⟩ := hrel
      by_cases hlt : k < n
      · have hkl : k < ss.length := by have := Hn.out; omega
        have hdr : ss.drop k = ss[k] :: ss.drop (k + 1) := List.drop_eq_getElem_cons hkl
        obtain ⟨s, hs⟩ : ∃ s, s = ss[k] := ⟨_, rfl⟩
        have hcell : wr.cell? ⟨b, off + k, none⟩ = some (.string s) := by
          have := (hr.below hbr).2 k (by simpa [strs] using hkl)
          rw [this, hs]; simp [strs]
        have hcall := HT.out s (by rw [hs]; exact List.getElem_mem hkl)
        rw [hdr, ← hs, List.any_cons] at hfe
        clear hdr hs
        have HC := Lib.hid hcall; clear hcall
        rcases (show bad s = true ∨ bad s = false by cases bad s <;> simp) with he | he
        · rw [he] at hfe
          have HF : Hid (ss.any bad = true) := by show _ = _; rw [hfe.out]; rfl
          have HE := Lib.hid he; clear he hfe
          go_wp2_with fail
          refine (HC.out _).mono ?_
          rintro r w1 ⟨rfl, hb1⟩
          rw [HE.out]
          go_wp2_with fail
          go_ret
          exact ⟨(k : Int), rfl, by rw [HF.out]; exact decide_eq_true (by omega), by omega, by omega, hbr.trans (hb1.mono hbr.size)⟩
        · rw [he] at hfe
          have HF : Hid (ss.any bad = (ss.drop (k + 1)).any bad) := by show _ = _; rw [hfe.out]; rfl
          have HE := Lib.hid he; clear he hfe
          go_wp2_with fail
          refine (HC.out _).mono ?_
          rintro r w1 ⟨rfl, hb1⟩
          rw [HE.out]
          go_wp2_with fail
          go_roundw
          case rel => exact ⟨k + 1, by omega, by go_num, hbr.trans (hb1.mono hbr.size), HF.out⟩
          case measure => simp [intOf]; omega
      · have HF : Hid (ss.any bad = false) := by
          show _ = _
          rw [hfe.out, List.drop_eq_nil_of_le (by have := Hn.out; omega)]; rfl
        clear hfe
        go_wp2_with fail
        go_ret
        exact ⟨-1, rfl, by rw [HF.out]; rfl, by omega, by omega, hbr⟩

theorem contains_func (F : Nat) (hF : F = 11 ∨ F = 100) (bad : ByteArray → Bool) (b off n c : Nat) (ss : List ByteArray) (w : World) (hn : ss.length = n) (hmax : n ≤ 4096) (hr : Row w b off (strs ss)) (ht : Tests F bad ss) :
    Calls Tryz.prog 10 #[.slice (some ⟨b, off, none⟩) n c, .func (.func F) #[] #[]] w fun r w' => r = .returned (.bool (ss.any bad)) ∧ Below w.heap.size w w' := by
  have HI := Lib.hid (index_func F hF bad b off n c ss w hn hmax hr ht)
  clear ht
  rcases hF with rfl | rfl
  all_goals
    go_enter Tryz.func10, Tryz.ntmps10
    go_wp2_with fail
    refine HI.out.mono ?_
    rintro r w1 ⟨v, rfl, hv, h1, h2, hb⟩
    go_wp2_with fail
    go_ret
    first
      | exact ⟨rfl, hb⟩
      | exact ⟨ret_bool hv, hb⟩

theorem roots_test (s : ByteArray) (w : World) (hs : s.size ≤ 140737488351232) :
    Calls Tryz.prog 11 #[.string s] w fun r w' => r = .returned (.bool (!shortb s.toList)) ∧ Below w.heap.size w w' := by
  go_enter Tryz.func11, Tryz.ntmps11
  go_wp2_with fail
  refine (ref_Short s _ hs).mono ?_
  rintro r w1 ⟨rfl, hb⟩
  go_wp2_with fail
  go_ret
  exact ⟨rfl, hb⟩

/-! An array of five texts. -/
def litS {H : Type} (s : ByteArray) : DataW H := .lit (.string s.data.toList)
theorem under_five : Tryz.prog.underlying 23 = some (.array 5 22) := by kernel_rfl
theorem cells_five : Tryz.prog.cellsOf 23 = 5 := by kernel_rfl
theorem cells_rat : Tryz.prog.cellsOf 22 = 1 := by kernel_rfl
set_option maxRecDepth 100000 in
theorem open_five {H : Type} {enc : TypeId × Value → H} {W : World} {base : Nat} {sp : Nat → Bool} {held : Bool} {r : Reach} {b0 : Nat} {v : Value} {d : DataW H} {ps : List MemPlace} (hval : Value.okWide Tryz.prog W r b0 23 v) (hd : DataW.Trod enc Tryz.prog W base sp held 23 v d ps) :
    ∃ a0 a1 a2 a3 a4 : ByteArray, v = .agg #[.string a0, .string a1, .string a2, .string a3, .string a4] ∧ d = .agg [litS a0, litS a1, litS a2, litS a3, litS a4] ∧ ps = [] ∧ ∀ s ∈ [a0, a1, a2, a3, a4], s.size ≤ maxLen := by
  obtain ⟨cs, rfl, hcs⟩ : ∃ cs, v = .agg cs ∧ cs.size = 5 := by
    simp only [Value.okWide, under_five] at hval
    obtain ⟨cs, h1, h2, _⟩ := hval
    exact ⟨cs, h1, by rw [h2, cells_five]⟩
  obtain ⟨fuel, hf⟩ := hd
  cases fuel with
  | zero => simp [DataW.trod] at hf
  | succ fuel =>
    rw [DataW.trod_step] at hf
    unfold DataW.trodStep at hf
    simp only [under_five, cells_rat, cells_five, Nat.mul_one, Value.cells] at hf
    split at hf
    · obtain ⟨xs, hm, hx⟩ := Option.map_eq_some_iff.1 hf
      rw [show List.range 5 = [0, 1, 2, 3, 4] from rfl] at hm
      simp only [List.mapM_cons, List.mapM_nil, bind, pure, Option.bind_eq_some_iff, Option.some.injEq] at hm
      obtain ⟨y0, h0, _, ⟨y1, h1, _, ⟨y2, h2, _, ⟨y3, h3, _, ⟨y4, h4, _, rfl, rfl⟩, rfl⟩, rfl⟩, rfl⟩, rfl⟩ := hm
      obtain ⟨a0, e0, rfl, z0⟩ := DataW.trod_string Tryz.underlying22 h0
      obtain ⟨a1, e1, rfl, z1⟩ := DataW.trod_string Tryz.underlying22 h1
      obtain ⟨a2, e2, rfl, z2⟩ := DataW.trod_string Tryz.underlying22 h2
      obtain ⟨a3, e3, rfl, z3⟩ := DataW.trod_string Tryz.underlying22 h3
      obtain ⟨a4, e4, rfl, z4⟩ := DataW.trod_string Tryz.underlying22 h4
      have hl : cs.toList.length = 5 := by simpa using hcs
      have hcs2 : cs = cs.toList.toArray := by simp
      rw [hcs2]
      generalize cs.toList = l at *
      clear hcs2 hcs
      rcases l with _ | ⟨v0, _ | ⟨v1, _ | ⟨v2, _ | ⟨v3, _ | ⟨v4, _ | ⟨v5, l⟩⟩⟩⟩⟩⟩
      · simp at hl
      · simp at hl
      · simp at hl
      · simp at hl
      · simp at hl
      · simp only [List.drop, List.take, List.cons.injEq, and_true] at e0 e1 e2 e3 e4
        subst e0 e1 e2 e3 e4
        simp only [Prod.mk.injEq] at hx
        refine ⟨a0, a1, a2, a3, a4, rfl, hx.1.symm, hx.2.symm, ?_⟩
        intro s hs
        simp only [List.mem_cons, List.not_mem_nil, or_false] at hs
        rcases hs with rfl | rfl | rfl | rfl | rfl
        · exact z0
        · exact z1
        · exact z2
        · exact z3
        · exact z4
      · simp at hl
    · cases hf
theorem shut_five {H : Type} {enc : TypeId × Value → H} {W : World} {base : Nat} {sp : Nat → Bool} {held : Bool} {a0 a1 a2 a3 a4 : ByteArray} (hz : ∀ s ∈ [a0, a1, a2, a3, a4], s.size ≤ maxLen) :
    DataW.Trod enc Tryz.prog W base sp held 23 (.agg #[.string a0, .string a1, .string a2, .string a3, .string a4]) (.agg [litS a0, litS a1, litS a2, litS a3, litS a4]) [] := by
  have el : ∀ s ∈ [a0, a1, a2, a3, a4], DataW.trod enc Tryz.prog W base sp held 1 22 [.string s] = some (litS s, []) := fun s h => by
    rw [DataW.trod_step]
    unfold DataW.trodStep
    simp only [Tryz.underlying22]
    rw [if_pos (hz s h)]
    rfl
  refine ⟨2, ?_⟩
  rw [DataW.trod_step]
  unfold DataW.trodStep
  simp only [under_five, cells_rat, cells_five, Nat.mul_one, Value.cells]
  rw [if_pos (by rfl), show List.range 5 = [0, 1, 2, 3, 4] from rfl]
  have h0 := el a0 (by simp)
  have h1 := el a1 (by simp)
  have h2 := el a2 (by simp)
  have h3 := el a3 (by simp)
  have h4 := el a4 (by simp)
  simp only [List.mapM_cons, List.mapM_nil, bind, pure, List.drop, List.take, h0, h1, h2, h3, h4, Option.bind_some, Option.map_some, List.map_cons, List.map_nil, List.flatMap_cons, List.flatMap_nil, List.append_nil]

end Go.Proofs.YtgkiaonakiflbaaGreatDoor
