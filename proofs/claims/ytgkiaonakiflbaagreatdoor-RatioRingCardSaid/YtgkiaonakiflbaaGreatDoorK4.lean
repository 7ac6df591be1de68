/- K4: the texts Ra Rb Rc Rd Re Rf Rg Rh Ri, joined. -/
import Derived.Test.YtgkiaonakiflbaaGreatDoorK3
import Derived.WalkLawsBesides
import Derived.Laws.IdiomStrings
import Derived.Lib.LazyBuf
import Derived.Deep.OwnRows
import Derived.Deep.RegionHeld3
import Derived.Deep.RegionWith
/- The contracts of metrolabref01's small functions. -/
namespace Go.Proofs.YtgkiaonakiflbaaGreatDoor
open Go.RowKit

theorem bytes_cases (s : ByteArray) : s.toList = [] ∨ (∃ h : 0 < s.size, (s[0].toNat : Int) = 45) ∨ (∃ h : 0 < s.size, ¬ (s[0].toNat : Int) = 45) := by
  by_cases h : s.toList = []
  · exact .inl h
  · have hp : 0 < s.size := by rw [← toList_length]; exact List.length_pos_iff.2 h
    by_cases e : (s[0].toNat : Int) = 45
    · exact .inr (.inl ⟨hp, e⟩)
    · exact .inr (.inr ⟨hp, e⟩)
theorem not_empty_of {s : ByteArray} (h : 0 < s.size) : s.toList.isEmpty = false := by
  rw [List.isEmpty_eq_false_iff]
  intro e; have := congrArg List.length e; rw [toList_length] at this; rw [this] at h; exact absurd h (by simp)
theorem body_tail {s : Bytes} (h : s.head? = some 45) : body s = s.drop 1 := by
  cases s with
  | nil => simp at h
  | cons c t => simp at h; subst h; rw [body_minus]; rfl

theorem ref_size (s : ByteArray) (w : World) (hs : s.size ≤ 140737488351232) :
    Calls Tryz.prog 89 #[.string s] w fun e w' => ∃ d, Is d (body s.toList) ∧ e = .returned (.string d) ∧ w = w' := by
  rcases bytes_cases s with h | ⟨hp, h⟩ | ⟨hp, h⟩
  · have g := isEmpty_yes (Is.self s) h
    have H := Lib.hid h; clear h
    go_enter Tryz.func89, Tryz.ntmps89
    go_wp2_with fail
    go_ret
    exact ⟨s, by rw [H.out]; exact H.out, rfl, rfl⟩
  · have g := not_empty_of hp
    go_enter Tryz.func89, Tryz.ntmps89
    go_wp2_with fail
    go_ret
    exact ⟨_, by rw [body_tail (head_45 h)]; exact toList_tail s, rfl, rfl⟩
  · have g := not_empty_of hp
    go_enter Tryz.func89, Tryz.ntmps89
    go_wp2_with fail
    go_ret
    exact ⟨s, by rw [body_digits (head_not45 h)]; rfl, rfl, rfl⟩

theorem ref_sizeI (s : ByteArray) (z : Int) (w : World) (h : IsI s z) (hs : s.size ≤ 140737488351232) :
    Calls Tryz.prog 89 #[.string s] w fun e w' => ∃ d, IsM d z.natAbs ∧ d.size = wid z ∧ e = .returned (.string d) ∧ w = w' := by
  refine (ref_size s w hs).mono ?_
  rintro e w' ⟨d, hd, rfl, rfl⟩
  exact ⟨d, h.body_is hd, (h.body_is hd).size, rfl, rfl⟩

theorem bytesLess_digits (a : Bytes) : ∀ b : Bytes, a.length = b.length → (∀ c ∈ a, isDig c = true) → (∀ c ∈ b, isDig c = true) →
    Op.bytesLess a b = decide (dval a < dval b) := by
  induction a with
  | nil =>
    intro b h _ _
    have : b = [] := List.eq_nil_of_length_eq_zero h.symm
    subst this
    rfl
  | cons c s ih =>
    intro b h ha hb
    cases b with
    | nil => simp at h
    | cons d t =>
      have hl : s.length = t.length := by simpa using h
      have hc := (isDig_iff c).1 (ha c (List.mem_cons_self ..))
      have hd := (isDig_iff d).1 (hb d (List.mem_cons_self ..))
      have hs' : ∀ x ∈ s, isDig x = true := fun x hx => ha x (List.mem_cons_of_mem _ hx)
      have ht' : ∀ x ∈ t, isDig x = true := fun x hx => hb x (List.mem_cons_of_mem _ hx)
      have hs := dval_lt s hs'
      have ht := dval_lt t ht'
      rw [← hl] at ht
      unfold Op.bytesLess
      rw [ih t hl hs' ht', dval_cons, dval_cons, ← hl]
      have ec := digv_eq c
      have ed := digv_eq d
      generalize 10 ^ s.length = p at *
      by_cases h1 : c < d
      · have h1' := UInt8.lt_iff_toNat_lt.1 h1
        have : digv c * p + p ≤ digv d * p := by
          rw [← Nat.succ_mul]; exact Nat.mul_le_mul_right _ (by omega)
        simp only [h1, decide_true, Bool.true_or]
        symm; rw [decide_eq_true_eq]; omega
      · simp only [h1, decide_false, Bool.false_or]
        by_cases h2 : c = d
        · subst h2
          simp
        · have h1' : ¬ c.toNat < d.toNat := fun e => h1 (UInt8.lt_iff_toNat_lt.2 e)
          have h2' : c.toNat ≠ d.toNat := fun e => h2 (UInt8.toNat_inj.1 e)
          have : digv d * p + p ≤ digv c * p := by
            rw [← Nat.succ_mul]; exact Nat.mul_le_mul_right _ (by omega)
          have h3 : (c == d) = false := by simp [h2]
          rw [h3, Bool.false_and]
          symm; rw [decide_eq_false_iff_not]; omega

theorem ret_bool {a b : Bool} (h : a = b) : Ending.returned (.bool a) = .returned (.bool b) := by rw [h]

theorem ref_less (a b : ByteArray) (m n : Nat) (w : World) (ha : IsM a m) (hb : IsM b n) (_h1 : a.size ≤ 140737488351232) (_h2 : b.size ≤ 140737488351232) :
    Calls Tryz.prog 116 #[.string a, .string b] w fun e w' => e = .returned (.bool (decide (m < n))) ∧ w = w' := by
  have e1 := ha.size
  have e2 := hb.size
  rcases Nat.lt_trichotomy a.size b.size with h | h | h
  · have E : Hid (m < n) := lt_of_nDigits_lt (by omega)
    clear e1 e2
    go_enter Tryz.func116, Tryz.ntmps116
    go_wp2_with fail
    go_ret
    exact ⟨ret_bool (decide_eq_true E.out).symm, rfl⟩
  · have E : Hid (Op.bytesLess a.toList b.toList = decide (m < n)) := by
      show _ = _
      rw [ha.out, hb.out, bytesLess_digits _ _ (by rw [Lib.decDigits_length, Lib.decDigits_length]; omega) (decDigits_all _) (decDigits_all _), dval_decDigits, dval_decDigits]
    clear e1 e2
    go_enter Tryz.func116, Tryz.ntmps116
    go_wp2_with fail
    go_ret
    exact ⟨ret_bool E.out, rfl⟩
  · have E : Hid (n < m) := lt_of_nDigits_lt (by omega)
    clear e1 e2
    go_enter Tryz.func116, Tryz.ntmps116
    go_wp2_with fail
    go_ret
    exact ⟨ret_bool (by rw [decide_eq_false (show ¬ a.size < b.size by omega), decide_eq_false (show ¬ m < n by have := E.out; omega)]), rfl⟩

theorem ret_col {a b : Int} {c d : Int} (h : a = c) (h' : b = d) : Ending.returned (.tuple #[.int .u8 a, .int .i64 b]) = .returned (.tuple #[.int .u8 c, .int .i64 d]) := by rw [h, h']

/-- What a column leaves, and what it carries. -/
theorem ref_column_add (x y c : Int) (w : World) (hx0 : 0 ≤ x) (hx : x < 10) (hy0 : 0 ≤ y) (hy : y < 10) (hc0 : 0 ≤ c) (hc : c ≤ 1) :
    Calls Tryz.prog 137 #[.int .u8 (48 + x), .int .u8 (48 + y), .int .i64 c, .bool true] w fun e w' => e = .returned (.tuple #[.int .u8 (48 + (x + y + c) % 10), .int .i64 ((x + y + c) / 10)]) ∧ w = w' := by
  go_enter Tryz.func137, Tryz.ntmps137
  go_wp2_with fail
  all_goals go_ret2
  all_goals exact ⟨ret_col (by omega) (by omega), rfl⟩

theorem ref_column_sub (x y c : Int) (w : World) (hx0 : 0 ≤ x) (hx : x < 10) (hy0 : 0 ≤ y) (hy : y < 10) (hc0 : 0 ≤ c) (hc : c ≤ 1) :
    Calls Tryz.prog 137 #[.int .u8 (48 + x), .int .u8 (48 + y), .int .i64 c, .bool false] w fun e w' => e = .returned (.tuple #[.int .u8 (48 + (x - y - c) % 10), .int .i64 (-((x - y - c) / 10))]) ∧ w = w' := by
  go_enter Tryz.func137, Tryz.ntmps137
  go_wp2_with fail
  all_goals go_ret2
  all_goals exact ⟨ret_col (by omega) (by omega), rfl⟩

theorem minus_of {a : ByteArray} {z : Int} (ha : IsI a z) {h : 0 < a.size} : ((a[0].toNat : Int) == 45) = decide (z < 0) := by
  by_cases e : (a[0].toNat : Int) = 45
  · have := ha.neg_of e; simp [e, this]
  · have h2 := ha.nonneg_of e
    have h3 : ¬ z < 0 := by omega
    simp [e, h3]

theorem ref_Below (a : ByteArray) (z : Int) (w : World) (ha : IsI a z) :
    Calls Tryz.prog 90 #[.string a] w fun e w' => e = .returned (.bool (decide (z < 0))) ∧ w = w' := by
  have hp := ha.pos
  go_enter Tryz.func90, Tryz.ntmps90
  go_wp2_with fail
  go_ret
  exact ⟨ret_bool (minus_of ha), rfl⟩

theorem IsM.zero_iff {a : ByteArray} {m : Nat} (ha : IsM a m) : (a.toList == [48]) = decide (m = 0) := by
  rw [ha.out]
  by_cases h : m = 0
  · subst h; rw [decDigits_zero]; rfl
  · rw [decide_eq_false h, beq_eq_false_iff_ne]
    intro e
    have := congrArg dval e
    rw [dval_decDigits] at this
    exact h (this.trans (by rw [show ([48] : Bytes) = Lib.decDigits 0 from decDigits_zero.symm, dval_decDigits]))
theorem IsM.isI {a : ByteArray} {m : Nat} (ha : IsM a m) : IsI a m := by
  unfold IsI Is; rw [ha.out, itoa_nonneg (by omega)]; rfl
theorem IsI.isM {a : ByteArray} {z : Int} (ha : IsI a z) (h : 0 ≤ z) : IsM a z.toNat := by
  unfold IsM Is; rw [ha.out, itoa_nonneg h]

theorem ref_signed (a : ByteArray) (m : Nat) (l : Bool) (w : World) (ha : IsM a m) (h1 : a.size ≤ 140737488351232) :
    Calls Tryz.prog 114 #[.string a, .bool l] w fun e w' => ∃ c, IsI c (sval l m) ∧ e = .returned (.string c) ∧ w = w' := by
  have hz := ha.zero_iff
  by_cases h0 : m = 0
  · rw [decide_eq_true h0] at hz
    have hc : IsI a (sval l m) := ha.isI.cast (by subst h0; cases l <;> rfl)
    have H0 := Lib.hid h0; clear h0
    go_enter Tryz.func114, Tryz.ntmps114
    go_wp2_with fail
    all_goals go_ret
    all_goals exact ⟨a, hc, rfl, rfl⟩
  · rw [decide_eq_false h0] at hz
    have hm : ∀ c : ByteArray, c.toList = 45 :: a.toList → IsI c (sval true m) := by
      intro c hc
      unfold IsI Is
      rw [hc, ha.out, sval_true, itoa_neg (by omega)]
      congr 2; omega
    have Hm := Lib.hid hm; clear hm
    cases l with
    | false =>
      go_enter Tryz.func114, Tryz.ntmps114
      go_wp2_with fail
      go_ret
      exact ⟨a, ha.isI, rfl, rfl⟩
    | true =>
      go_enter Tryz.func114, Tryz.ntmps114
      go_wp2_with fail
      go_ret
      exact ⟨_, Hm.out _ (by rw [toList_append, show (⟨#[45]⟩ : ByteArray).toList = [45] from toList_lit [45]]; rfl), rfl, rfl⟩

theorem sval_not (z : Int) : sval (!decide (z < 0)) z.natAbs = -z := by
  by_cases h : z < 0
  · rw [decide_eq_true h]; show (z.natAbs : Int) = -z; omega
  · rw [decide_eq_false h]; show -(z.natAbs : Int) = -z; omega

theorem ref_Turned (a : ByteArray) (z : Int) (w : World) (ha : IsI a z) (h1 : a.size ≤ 140737488351232) :
    Calls Tryz.prog 117 #[.string a] w fun e w' => ∃ c, IsI c (-z) ∧ e = .returned (.string c) ∧ w = w' := by
  have hle := ha.wid_le
  go_enter Tryz.func117, Tryz.ntmps117
  go_wp2_with (first
    | (go_at_call 89; refine (ref_sizeI a z _ ha h1).mono ?_; rintro e w' ⟨d, hd, hds, rfl, rfl⟩)
    | (go_at_call 90; refine (ref_Below a z _ ha).mono ?_; rintro e w' ⟨rfl, rfl⟩)
    | (go_at_call 114; refine (ref_signed d z.natAbs (!decide (z < 0)) _ hd (by omega)).mono ?_; rintro e w' ⟨c, hc, rfl, rfl⟩))
  go_ret
  exact ⟨c, hc.cast (sval_not z), rfl, rfl⟩

end Go.Proofs.YtgkiaonakiflbaaGreatDoor

/- The contracts of metrolabref01's bare, number, brief, Check, Of. -/
namespace Go.Proofs.YtgkiaonakiflbaaGreatDoor
open Go.RowKit

theorem bare_step {s : Bytes} (h : s.head? = some 48) : dval (s.drop 1) = dval s := by
  cases s with
  | nil => simp at h
  | cons c t =>
    simp at h; subst h
    rw [dval_cons, digv_eq]
    have h48 : (48 : UInt8).toNat = 48 := rfl
    rw [h48]; simp

theorem ne_nil_of {s : ByteArray} (h : 0 < s.size) : s.toList ≠ [] := by
  have := not_empty_of h
  rwa [List.isEmpty_eq_false_iff] at this
theorem byte_at (s : ByteArray) (k : Nat) (h : k < s.size) : s.toList[k]? = some s[k] := by
  rw [ByteArray.toList_eq]
  cases s with
  | mk a =>
    show a.toList[k]? = some a[k]
    rw [Array.getElem?_toList, Array.getElem?_eq_getElem]
theorem dig_at {s : ByteArray} (hd : s.toList.all isDig = true) (k : Nat) (h : k < s.size) : 48 ≤ (s[k].toNat : Int) ∧ (s[k].toNat : Int) ≤ 57 := by
  have h1 := List.mem_of_getElem? (byte_at s k h)
  have h2 := (isDig_iff _).1 (List.all_eq_true.1 hd _ h1)
  omega
theorem dval_take {s : ByteArray} (hd : s.toList.all isDig = true) (k : Nat) (h : k < s.size) : (dval (s.toList.take (k + 1)) : Int) = 10 * dval (s.toList.take k) + ((s[k].toNat : Int) - 48) := by
  have h1 : s.toList.take (k + 1) = s.toList.take k ++ [s[k]] := by rw [List.take_add_one, byte_at s k h]; rfl
  have h2 := dig_at hd k h
  rw [h1, dval_snoc, digv_eq]
  omega
theorem dval_take_lt {s : ByteArray} (hd : s.toList.all isDig = true) (k : Nat) (hk : k ≤ 18) : (dval (s.toList.take k) : Int) < 1000000000000000000 := by
  have h1 := dval_lt (s.toList.take k) (fun x hx => List.all_eq_true.1 hd x (List.mem_of_mem_take hx))
  have h2 : (10 : Nat) ^ (s.toList.take k).length ≤ 10 ^ 18 := Nat.pow_le_pow_right (by omega) (by rw [List.length_take]; omega)
  have h3 : (10 : Nat) ^ 18 = 1000000000000000000 := by decide
  omega
theorem dval_take_lt17 {s : ByteArray} (hd : s.toList.all isDig = true) (k : Nat) (hk : k ≤ 17) : (dval (s.toList.take k) : Int) < 100000000000000000 := by
  have h1 := dval_lt (s.toList.take k) (fun x hx => List.all_eq_true.1 hd x (List.mem_of_mem_take hx))
  have h2 : (10 : Nat) ^ (s.toList.take k).length ≤ 10 ^ 17 := Nat.pow_le_pow_right (by omega) (by rw [List.length_take]; omega)
  have h3 : (10 : Nat) ^ 17 = 100000000000000000 := by decide
  omega
theorem IsM.all {a : ByteArray} {m : Nat} (h : IsM a m) : a.toList.all isDig = true := by
  rw [h.out, List.all_eq_true]; exact decDigits_all m

theorem ref_bare (s : ByteArray) (w : World) (hs : s.size ≤ 140737488351232) (hd : s.toList.all isDig = true) (hne : 0 < s.size) :
    Calls Tryz.prog 138 #[.string s] w fun e w' => ∃ d, IsM d (dval s.toList) ∧ e = .returned (.string d) ∧ w = w' := by
  obtain ⟨V, hV⟩ : ∃ V, V = dval s.toList := ⟨_, rfl⟩
  rw [← hV]
  have HV := Lib.hid hV; clear hV
  go_enter Tryz.func138, Tryz.ntmps138
  go_wp2_with fail
  go_loopw [0] (fun v wr => ∃ c : ByteArray, v = .string c ∧ 0 < c.size ∧ c.size ≤ 140737488351232 ∧ Hid (c.toList.all isDig = true) ∧ Hid (dval c.toList = V) ∧ wr = w) (fun v _ => strLen v)
  case atStart => exact ⟨s, rfl, hne, hs, hd, HV.out.symm, rfl⟩
  case round =>
    obtain ⟨c, rfl, h0, h1, hcd, hcv, rfl⟩ := hrel
    go_wp2_with fail
    · refine ⟨⟨_, rfl, ?_, ?_, ?_, ?_, trivial⟩, ?_⟩
      · rw [ByteArray.size_extract]; omega
      · rw [ByteArray.size_extract]; omega
      · show _ = true
        rw [toList_tail, List.all_eq_true]
        exact fun x hx => List.all_eq_true.1 hcd.out x (List.mem_of_mem_drop hx)
      · show _ = _
        rw [toList_tail, bare_step (head_48 (by simpa using ‹(_ == (48 : Int)) = true›)), hcv.out]
      · show (c.extract 1 c.size).size < c.size
        rw [ByteArray.size_extract]; omega
    · go_ret
      refine ⟨c, ?_, rfl, rfl⟩
      rw [← hcv.out]
      exact (decDigits_dval _ (fun x hx => List.all_eq_true.1 hcd.out x hx) (ne_nil_of h0) (.inl (head_not48 (by simpa using ‹(_ == (48 : Int)) = false›)))).symm
    · go_ret
      refine ⟨c, ?_, rfl, rfl⟩
      rw [← hcv.out]
      exact (decDigits_dval _ (fun x hx => List.all_eq_true.1 hcd.out x hx) (ne_nil_of h0) (.inr (by rw [toList_length]; omega))).symm

set_option maxRecDepth 100000 in
theorem ref_number (a : ByteArray) (z : Int) (w : World) (ha : IsI a z) (hz : wid z ≤ 18) :
    Calls Tryz.prog 135 #[.string a] w fun e w' => e = .returned (.int .i64 z) ∧ w = w' := by
  have hsz := ha.size_le
  go_enter Tryz.func135, Tryz.ntmps135
  go_wp2_with (go_at_call 89; refine (ref_sizeI a z _ ha (by omega)).mono ?_; rintro e w' ⟨d, hd, hds, rfl, rfl⟩)
  have hda := hd.all
  have hd18 : d.size ≤ 18 := by omega
  have hfin : (dval d.toList : Int) = z.natAbs := by rw [hd.out, dval_decDigits]
  have HD := Lib.hid hda; have HF := Lib.hid hfin; clear hda hds hfin
  go_loopw [3, 5] (fun n i wr => ∃ k : Nat, k ≤ d.size ∧ n = .int .i64 (dval (d.toList.take k)) ∧ i = .int .i64 k ∧ wr = w) (fun _ i _ => d.size - (intOf i).toNat)
  case atStart => exact ⟨0, by omega, rfl, rfl, rfl⟩
  case round =>
    obtain ⟨k, hk, rfl, rfl, rfl⟩ := hrel
    have V0 : (0 : Int) ≤ (dval (d.toList.take k) : Int) := by omega
    by_cases hlt : k < d.size
    · have hl := dval_take_lt17 HD.out k (by omega)
      obtain ⟨d0, d1⟩ := dig_at HD.out k hlt
      have hv := dval_take HD.out k hlt
      generalize (dval (d.toList.take k) : Int) = V at *
      have HV := Lib.hid hv; clear hv
      go_wp2_with fail
      refine ⟨⟨k + 1, by omega, ?_, by go_num, trivial⟩, by simp [intOf]; omega⟩
      rw [HV.out]
    · have hl := dval_take_lt HD.out k (by omega)
      have hkd : k = d.size := by omega
      have hfin : (dval (d.toList.take k) : Int) = z.natAbs := by rw [← HF.out, List.take_of_length_le (by rw [toList_length]; omega)]
      have HF2 := Lib.hid hfin
      have HK := Lib.hid hkd; clear hfin hkd
      generalize (dval (d.toList.take k) : Int) = V at *
      go_wp2_with (go_at_call 90; refine (ref_Below a z _ ha).mono ?_; rintro e w' ⟨rfl, rfl⟩)
      all_goals go_ret
      all_goals exact ⟨ret_int (by have := HF2.out; omega), rfl⟩

theorem number_bound {z : Int} (hz : wid z ≤ 18) : -1000000000000000000 < z ∧ z < 1000000000000000000 := by
  have h2 := Lib.lt_pow_nDigits z.natAbs
  have h3 : (10 : Nat) ^ Lib.nDigits z.natAbs ≤ 10 ^ 18 := Nat.pow_le_pow_right (by omega) hz
  have : (10 : Nat) ^ 18 = 1000000000000000000 := by decide
  omega

set_option maxRecDepth 100000 in
set_option maxHeartbeats 1000000 in
theorem brief_yes (a b : ByteArray) (x y : Int) (w : World) (ha : IsI a x) (hb : IsI b y) (hx : wid x ≤ 18) (hy : wid y ≤ 18) :
    Calls Tryz.prog 113 #[.string a, .string b] w fun e w' => e = .returned (.tuple #[.int .i64 x, .int .i64 y, .bool true]) ∧ w = w' := by
  have s1 := ha.size_le
  have s2 := hb.size_le
  go_enter Tryz.func113, Tryz.ntmps113
  go_wp2_with fail
  refine (ref_sizeI a x _ ha (by omega)).mono ?_
  rintro e w' ⟨d, hd, hds, rfl, rfl⟩
  have hd18 : d.size ≤ 18 := by omega
  clear hds
  go_wp2_with fail
  refine (ref_sizeI b y _ hb (by omega)).mono ?_
  rintro e w' ⟨d2, hd2, hds2, rfl, rfl⟩
  have hd218 : d2.size ≤ 18 := by omega
  clear hds2
  go_wp2_with fail
  refine (ref_number a x _ ha hx).mono ?_
  rintro e w' ⟨rfl, rfl⟩
  go_wp2_with fail
  refine (ref_number b y _ hb hy).mono ?_
  rintro e w' ⟨rfl, rfl⟩
  go_wp2_with fail
  go_ret3
  exact ⟨rfl, rfl⟩

set_option maxRecDepth 100000 in
set_option maxHeartbeats 1000000 in
theorem brief_no (a b : ByteArray) (x y : Int) (w : World) (ha : IsI a x) (hb : IsI b y) (h : 18 < wid x ∨ 18 < wid y) (h1 : a.size ≤ 140737488351232) (h2 : b.size ≤ 140737488351232) :
    Calls Tryz.prog 113 #[.string a, .string b] w fun e w' => e = .returned (.tuple #[.int .i64 0, .int .i64 0, .bool false]) ∧ w = w' := by
  have s1 := ha.wid_le
  have s2 := hb.wid_le
  rcases Nat.lt_or_ge 18 (wid x) with hx | hx
  · go_enter Tryz.func113, Tryz.ntmps113
    go_wp2_with fail
    refine (ref_sizeI a x _ ha (by omega)).mono ?_
    rintro e w' ⟨d, hd, hds, rfl, rfl⟩
    have hd18 : 18 < d.size := by omega
    have hd19 : d.size ≤ 140737488351232 := by omega
    clear hds
    go_wp2_with fail
    go_ret3
    exact ⟨rfl, rfl⟩
  · have hy : 18 < wid y := by omega
    go_enter Tryz.func113, Tryz.ntmps113
    go_wp2_with fail
    refine (ref_sizeI a x _ ha (by omega)).mono ?_
    rintro e w' ⟨d, hd, hds, rfl, rfl⟩
    have hd18 : d.size ≤ 18 := by omega
    clear hds
    go_wp2_with fail
    refine (ref_sizeI b y _ hb (by omega)).mono ?_
    rintro e w' ⟨d2, hd2, hds2, rfl, rfl⟩
    have hd218 : 18 < d2.size := by omega
    have hd219 : d2.size ≤ 140737488351232 := by omega
    clear hds2
    go_wp2_with fail
    go_ret3
    exact ⟨rfl, rfl⟩

theorem take_all_step {s : ByteArray} {k : Nat} (h : (s.toList.take k).all isDig = true) (hk : k < s.size) (h0 : 48 ≤ (s[k].toNat : Int)) (h1 : (s[k].toNat : Int) ≤ 57) : (s.toList.take (k + 1)).all isDig = true := by
  rw [List.take_add_one, byte_at s k hk, List.all_append, h]
  simp [isDig_iff]; omega
theorem not_all_of {s : ByteArray} {k : Nat} (hk : k < s.size) (h : (s[k].toNat : Int) < 48 ∨ 57 < (s[k].toNat : Int)) : s.toList.all isDig = false := by
  rw [Bool.eq_false_iff]
  intro hd
  have := dig_at hd k hk
  omega

set_option maxRecDepth 100000 in
set_option maxHeartbeats 1000000 in
theorem ref_Check (s : ByteArray) (w : World) (hs : s.size ≤ 140737488351232) :
    Calls Tryz.prog 85 #[.string s] w fun e w' => e = .returned (.int .i64 (chk s.toList)) ∧ w = w' := by
  have hbl : (body s.toList).length ≤ 140737488351232 := Nat.le_trans (body_le _) (by rw [toList_length]; exact hs)
  by_cases h1 : body s.toList = []
  · go_enter Tryz.func85, Tryz.ntmps85
    go_wp2_with (go_at_call 89; refine (ref_size _ _ hs).mono ?_; rintro e w' ⟨d, hd, rfl, rfl⟩; have g1 := isEmpty_yes hd h1)
    go_ret
    exact ⟨ret_int (chk_form (isNum_body_nil h1)).symm, rfl⟩
  · go_enter Tryz.func85, Tryz.ntmps85
    go_wp2_with fail
    refine (ref_size _ _ hs).mono ?_
    rintro e w' ⟨d, hd, rfl, rfl⟩
    have g1 := isEmpty_no hd h1
    have g0 := pos_of hd h1
    have g3 : d.size ≤ 140737488351232 := by rw [hd.size]; omega
    go_wp2_with fail
    · have h48 : (body s.toList).head? = some 48 := by rw [← hd.out]; exact head_48 ‹(d[0].toNat : Int) = 48›
      have hl : (1 : Int) < d.size ∨ (1 : Int) < s.size := ‹(1 : Int) < d.size ∨ (1 : Int) < s.size›
      go_ret
      exact ⟨ret_int (chk_form (isNum_zero h48 (by
        intro e
        have e2 := hd.size
        rw [e] at e2
        have e3 := congrArg List.length e; rw [toList_length] at e3
        simp [body] at e2 e3
        omega))).symm, rfl⟩
    · have hz : (body s.toList).head? ≠ some 48 ∨ s.toList = [48] := by
        have h48 : (body s.toList).head? = some 48 := by rw [← hd.out]; exact head_48 ‹(d[0].toNat : Int) = 48›
        obtain ⟨e1, e2⟩ : (d.size : Int) ≤ 1 ∧ (s.size : Int) ≤ 1 := ‹(d.size : Int) ≤ 1 ∧ (s.size : Int) ≤ 1›
        right
        have e3 : s.toList.length ≤ 1 := by rw [toList_length]; omega
        match hs3 : s.toList, e3 with
        | [], _ => rw [hs3] at h48; simp [body] at h48
        | [c], _ =>
          rw [hs3] at h48
          by_cases h45 : c = 45
          · subst h45; simp [body] at h48
          · simp [body, h45] at h48; rw [h48]
      go_loopw [4] (fun i wr => ∃ k : Nat, k ≤ d.size ∧ Hid ((d.toList.take k).all isDig = true) ∧ i = .int .i64 k ∧ wr = w) (fun i _ => d.size - (intOf i).toNat)
      case atStart => exact ⟨0, by omega, rfl, rfl, rfl⟩
      case round =>
        obtain ⟨k, hk, hal, rfl, rfl⟩ := hrel
        have HZ := Lib.hid hz; clear hz
        by_cases hlt : k < d.size
        · by_cases hdg : 48 ≤ (d[k].toNat : Int) ∧ (d[k].toNat : Int) ≤ 57
          · obtain ⟨q0, q1⟩ := hdg
            have q2 := take_all_step hal.out hlt q0 q1
            have Q2 := Lib.hid q2; clear q2
            go_wp2_with fail
            exact ⟨⟨k + 1, by omega, Q2.out, by go_num, trivial⟩, by simp [intOf]; omega⟩
          · have q2 : (body s.toList).all isDig = false := by rw [← hd.out]; exact not_all_of hlt (by omega)
            have Q2 := Lib.hid q2; clear q2
            go_wp2_with fail
            all_goals go_ret
            all_goals exact ⟨ret_int (chk_form (isNum_not_all Q2.out)).symm, rfl⟩
        · have q2 : (body s.toList).all isDig = true := by
            rw [← hd.out, ← hal.out, List.take_of_length_le (by rw [toList_length]; omega)]
          have Q2 := Lib.hid q2
          have q3 := hd.size
          have Q3 := Lib.hid q3; clear q2 q3
          go_wp2_with fail
          all_goals go_ret
          all_goals first
            | exact ⟨ret_int (chk_ok (isNum_yes h1 Q2.out HZ.out) (by have := Q3.out; omega)).symm, rfl⟩
            | exact ⟨ret_int (chk_large (isNum_yes h1 Q2.out HZ.out) (by have := Q3.out; omega)).symm, rfl⟩
    · have h48 : (body s.toList).head? = some 48 := by rw [← hd.out]; exact head_48 ‹(d[0].toNat : Int) = 48›
      go_ret
      exact ⟨ret_int (chk_form (isNum_zero h48 (by
        intro e
        have e2 := hd.size
        rw [e] at e2
        have e3 := congrArg List.length e; rw [toList_length] at e3
        simp [body] at e2 e3
        omega))).symm, rfl⟩
    · have hz : (body s.toList).head? ≠ some 48 ∨ s.toList = [48] := by left; rw [← hd.out]; exact head_not48 ‹¬ (d[0].toNat : Int) = 48›
      go_loopw [4] (fun i wr => ∃ k : Nat, k ≤ d.size ∧ Hid ((d.toList.take k).all isDig = true) ∧ i = .int .i64 k ∧ wr = w) (fun i _ => d.size - (intOf i).toNat)
      case atStart => exact ⟨0, by omega, rfl, rfl, rfl⟩
      case round =>
        obtain ⟨k, hk, hal, rfl, rfl⟩ := hrel
        have HZ := Lib.hid hz; clear hz
        by_cases hlt : k < d.size
        · by_cases hdg : 48 ≤ (d[k].toNat : Int) ∧ (d[k].toNat : Int) ≤ 57
          · obtain ⟨q0, q1⟩ := hdg
            have q2 := take_all_step hal.out hlt q0 q1
            have Q2 := Lib.hid q2; clear q2
            go_wp2_with fail
            exact ⟨⟨k + 1, by omega, Q2.out, by go_num, trivial⟩, by simp [intOf]; omega⟩
          · have q2 : (body s.toList).all isDig = false := by rw [← hd.out]; exact not_all_of hlt (by omega)
            have Q2 := Lib.hid q2; clear q2
            go_wp2_with fail
            all_goals go_ret
            all_goals exact ⟨ret_int (chk_form (isNum_not_all Q2.out)).symm, rfl⟩
        · have q2 : (body s.toList).all isDig = true := by
            rw [← hd.out, ← hal.out, List.take_of_length_le (by rw [toList_length]; omega)]
          have Q2 := Lib.hid q2
          have q3 := hd.size
          have Q3 := Lib.hid q3; clear q2 q3
          go_wp2_with fail
          all_goals go_ret
          all_goals first
            | exact ⟨ret_int (chk_ok (isNum_yes h1 Q2.out HZ.out) (by have := Q3.out; omega)).symm, rfl⟩
            | exact ⟨ret_int (chk_large (isNum_yes h1 Q2.out HZ.out) (by have := Q3.out; omega)).symm, rfl⟩

/-- A byte that is made into a text. -/
theorem conv_byte (w : World) (b : Nat) (c : UInt8) (h : w.cell? ⟨b, 0, none⟩ = some (.int .u8 (c.toNat : Int))) :
    (convert 131 9 (.slice (some ⟨b, 0, none⟩) 1 1)).run Tryz.prog w = .ok (.string ⟨#[c]⟩) w := by
  refine run_convert_bytes_back w 131 9 5 ⟨b, 0, none⟩ 1 [c] Tryz.underlying131 Tryz.underlying5 Tryz.underlying9 ?_
  intro j hj
  match j, hj with
  | 0, _ => exact h

theorem decDigits_step {m : Nat} (h : 10 ≤ m) : Lib.decDigits m = Lib.decDigits (m / 10) ++ [UInt8.ofNat (48 + m % 10)] := by
  rw [Lib.decDigits, dif_neg (by omega)]

set_option maxRecDepth 100000 in
set_option maxHeartbeats 1000000 in
theorem ref_Of_nat (n : Nat) (w : World) (hn : n ≤ 9223372036854775807) :
    Calls Tryz.prog 88 #[.int .i64 (n : Int)] w (NewText n w) := by
  have n0 : (0 : Int) ≤ (n : Int) := by omega
  have n1 : (n : Int) ≤ 9223372036854775807 := by omega
  have hpre : (((n : Int) == -(n : Int)) = true ∧ ((n : Int) != 0) = false) ∨ ((n : Int) == -(n : Int)) = false := by
    by_cases h0 : n = 0
    · left; subst h0; exact ⟨rfl, rfl⟩
    · right; simp; omega
  have hN1 : (Lib.decDigits n).length ≤ 19 := by rw [Lib.decDigits_length]; exact nDigits_le_of_lt 19 n (by omega) (by rw [show (10 : Nat) ^ 19 = 10000000000000000000 by decide]; omega)
  rcases hpre with ⟨g1, g2⟩ | g1
  all_goals
    go_enter Tryz.func88, Tryz.ntmps88
    go_wp2_with fail
    go_loopw [0, 3] (fun i s wr => ∃ (m : Nat) (c : ByteArray), i = .int .i64 (m : Int) ∧ s = .string c ∧ Hid (Lib.decDigits m ++ c.toList = Lib.decDigits n) ∧ m ≤ n ∧ Below w.heap.size w wr) (fun i _ _ => (intOf i).toNat)
    case atStart => exact ⟨n, ⟨#[]⟩, rfl, rfl, by show _ = _; rw [toList_lit]; simp, Nat.le_refl _, Below.refl _ _⟩
    case round =>
      obtain ⟨m, c, rfl, rfl, heq, hm, hb⟩ := hrel
      have hcl : c.size ≤ 19 := by
        have := congrArg List.length heq.out
        rw [List.length_append, toList_length] at this
        omega
      have hm1 : (m : Int) ≤ 9223372036854775807 := by omega
      by_cases h9 : 9 < m
      · have htm : (m : Int).tmod 10 = ((m % 10 : Nat) : Int) := rfl
        have htd : (m : Int).tdiv 10 = ((m / 10 : Nat) : Int) := rfl
        have hr0 : ((m % 10 : Nat) : Int) < 10 := by omega
        have hr00 : 0 ≤ ((m % 10 : Nat) : Int) := by omega
        have hd0 : 0 ≤ ((m / 10 : Nat) : Int) := by omega
        have hd1 : ((m / 10 : Nat) : Int) ≤ 9223372036854775807 := by omega
        have hstep := decDigits_step (m := m) (by omega)
        have hch : ((UInt8.ofNat (48 + m % 10)).toNat : Int) = 48 + ((m % 10 : Nat) : Int) := by rw [UInt8.toNat_ofNat']; omega
        generalize UInt8.ofNat (48 + m % 10) = ch at *
        have hcv : (convert 131 9 (.slice (some ⟨wr.heap.size, 0, none⟩) 1 1)).run Tryz.prog (wr.alloc (.cells #[.int .u8 (48 + ((m % 10 : Nat) : Int))] 5)) = .ok (.string ⟨#[ch]⟩) (wr.alloc (.cells #[.int .u8 (48 + ((m % 10 : Nat) : Int))] 5)) :=
          conv_byte _ _ _ (by rw [hch]; exact cell_of_row _ _ 0 _ _ _ (heap_alloc_new wr _))
        have Hstep := Lib.hid hstep; clear hstep hch
        generalize ((m % 10 : Nat) : Int) = r at *
        generalize hq : ((m / 10 : Nat) : Int) = q at *
        have Hq := Lib.hid hq; clear hq
        go_wp2_with fail
        go_roundw
        case rel =>
          refine ⟨m / 10, _, by rw [Hq.out], rfl, ?_, Nat.le_trans (Nat.div_le_self m 10) hm, hb.alloc hb.size _⟩
          show _ = _
          rw [toList_append, show (⟨#[ch]⟩ : ByteArray).toList = [ch] from toList_lit _, ← heq.out, Hstep.out, List.append_assoc]
        case measure => simp only [intOf]; have := Hq.out; omega
      · have hch : ((UInt8.ofNat (48 + m)).toNat : Int) = 48 + (m : Int) := by rw [UInt8.toNat_ofNat']; omega
        have hlast : Lib.decDigits m = [UInt8.ofNat (48 + m)] := by rw [Lib.decDigits, dif_pos (by omega)]
        generalize UInt8.ofNat (48 + m) = ch at *
        have hcv : (convert 131 9 (.slice (some ⟨wr.heap.size, 0, none⟩) 1 1)).run Tryz.prog (wr.alloc (.cells #[.int .u8 (48 + (m : Int))] 5)) = .ok (.string ⟨#[ch]⟩) (wr.alloc (.cells #[.int .u8 (48 + (m : Int))] 5)) :=
          conv_byte _ _ _ (by rw [hch]; exact cell_of_row _ _ 0 _ _ _ (heap_alloc_new wr _))
        have HL := Lib.hid hlast; clear hch hlast
        go_wp2_with fail
        go_ret
        refine ⟨_, ?_, rfl, hb.alloc hb.size _⟩
        unfold IsI Is
        rw [toList_append, show (⟨#[ch]⟩ : ByteArray).toList = [ch] from toList_lit _, ← HL.out, heq.out, itoa_nonneg n0]
        rfl

theorem min_text : IsI ⟨#[45, 57, 50, 50, 51, 51, 55, 50, 48, 51, 54, 56, 53, 52, 55, 55, 53, 56, 48, 56]⟩ (-9223372036854775808) := by
  have h : IsI ⟨#[45, 57, 50, 50, 51, 51, 55, 50, 48, 51, 54, 56, 53, 52, 55, 55, 53, 56, 48, 56]⟩ (num (⟨#[45, 57, 50, 50, 51, 51, 55, 50, 48, 51, 54, 56, 53, 52, 55, 55, 53, 56, 48, 56]⟩ : ByteArray).toList) := by
    apply IsI.of_num
    rw [show (⟨#[45, 57, 50, 50, 51, 51, 55, 50, 48, 51, 54, 56, 53, 52, 55, 55, 53, 56, 48, 56]⟩ : ByteArray).toList = [45, 57, 50, 50, 51, 51, 55, 50, 48, 51, 54, 56, 53, 52, 55, 55, 53, 56, 48, 56] from toList_lit _]
    decide
  refine h.cast ?_
  rw [show (⟨#[45, 57, 50, 50, 51, 51, 55, 50, 48, 51, 54, 56, 53, 52, 55, 55, 53, 56, 48, 56]⟩ : ByteArray).toList = [45, 57, 50, 50, 51, 51, 55, 50, 48, 51, 54, 56, 53, 52, 55, 55, 53, 56, 48, 56] from toList_lit _]
  simp [num, body, dval, dvalFrom_cons, dvalFrom_nil, digv_eq]

set_option maxRecDepth 100000 in
set_option maxHeartbeats 1000000 in
theorem ref_Of (n : Int) (w : World) (h0 : -9223372036854775808 ≤ n) (h1 : n ≤ 9223372036854775807) :
    Calls Tryz.prog 88 #[.int .i64 n] w (NewText n w) := by
  rcases Int.lt_or_le n 0 with hn | hn
  · by_cases hm : n = -9223372036854775808
    · subst hm
      have hw : wrap64 9223372036854775808 = -9223372036854775808 := by unfold wrap64; omega
      go_enter Tryz.func88, Tryz.ntmps88
      go_wp2_with fail
      go_ret
      exact ⟨_, min_text, rfl, Below.refl _ _⟩
    · have g1 : (n == -n) = false := by simp; omega
      have hnn : ((-n).toNat : Int) = -n := by omega
      have hc := fun w' => ref_Of_nat (-n).toNat w' (by omega)
      rw [hnn] at hc
      have HC := Lib.hid hc; clear hc hnn
      have hwd : wid (-n) ≤ 20 := wid_le_of (k := 20) (by omega) (by have : (10 : Nat) ^ 20 = 100000000000000000000 := by decide
                                                                     omega)
      have hlo : -9223372036854775807 ≤ n := by omega
      clear hm
      go_enter Tryz.func88, Tryz.ntmps88
      go_wp2_with fail
      refine (HC.out _).mono ?_
      rintro e w1 ⟨c, hc, rfl, hb1⟩
      have hcs := hc.size_le
      go_wp2_with fail
      refine (ref_Turned c (-n) _ hc (by omega)).mono ?_
      rintro e w2 ⟨d, hd, rfl, rfl⟩
      go_wp2_with fail
      go_ret
      exact ⟨d, hd.cast (by omega), rfl, hb1⟩
  · have h := ref_Of_nat n.toNat w (by omega)
    rw [show (n.toNat : Int) = n by omega] at h
    exact h

end Go.Proofs.YtgkiaonakiflbaaGreatDoor

/- The contract of metrolabref01's wide. -/
namespace Go.Proofs.YtgkiaonakiflbaaGreatDoor
open Go.RowKit

theorem byte_info : (Tryz.prog.info? 5).map (fun i => (i.zero, i.size, i.bytes)) = some (some (.int .u8 0), 1, 1) := by kernel_rfl
theorem byte_size : ∀ w, (Go.sizeOf 5).run Tryz.prog w = .ok 1 w := by
  intro w
  have h := byte_info
  cases hq : Tryz.prog.info? 5 with
  | none => rw [hq] at h; cases h
  | some i =>
    rw [hq] at h
    simp at h
    simp [sizeOf, typeInfo, hq, h.2.1]

/-- Zeros in front, up to a length. -/
def pad (n : Nat) (l : Bytes) : Bytes := List.replicate (n - l.length) 48 ++ l
theorem pad_length {n : Nat} {l : Bytes} (h : l.length ≤ n) : (pad n l).length = n := by
  unfold pad; rw [List.length_append, List.length_replicate]; omega
theorem pad_dval (n : Nat) (l : Bytes) : dval (pad n l) = dval l := by
  unfold pad; rw [dval_append, dval_zeros]; omega
theorem pad_dig {n : Nat} {l : Bytes} (h : l.all isDig = true) : (pad n l).all isDig = true := by
  unfold pad; rw [List.all_append, h, Bool.and_true, List.all_eq_true]
  intro x hx; rw [List.mem_replicate] at hx; rw [hx.2]; decide

/-- copy from a string into an own row. -/
theorem copied_row {w w0 : World} {b off n B : Nat} {T : TypeId} {t : ByteArray} {f : Nat → Value} (hr : w.rowIs b T n f) (hb : Below B w0 w) (hBg : B ≤ b) :
    (w.setCells b off (t.data.toList.map fun x => Value.int .u8 (x.toNat : Int))).rowIs b T n (fun j => if off ≤ j ∧ j < off + t.size then .int .u8 ((t.toList[j - off]?.getD 0).toNat : Int) else f j) ∧
    Below B w0 (w.setCells b off (t.data.toList.map fun x => Value.int .u8 (x.toNat : Int))) := by
  refine ⟨?_, below_setCells hBg _ _ _ hb⟩
  refine (rowIs_setCells (t.data.toList.map fun x => Value.int .u8 (x.toNat : Int)) off w f hr).congr (fun j _ => ?_)
  have hl : (t.data.toList.map fun x => Value.int .u8 (x.toNat : Int)).length = t.size := by rw [List.length_map, ← ByteArray.toList_eq, toList_length]
  rw [hl]
  by_cases hj : off ≤ j ∧ j < off + t.size
  · rw [if_pos hj, if_pos hj, List.getElem?_map, ← ByteArray.toList_eq]
    have : j - off < t.toList.length := by rw [toList_length]; omega
    rw [List.getElem?_eq_getElem this]; rfl
  · rw [if_neg hj, if_neg hj]

/-- A row of bytes, made into a text. -/
theorem conv_row (w : World) (b n : Nat) (l : Bytes) (h : w.rowIs b 5 n (fun j => .int .u8 ((l[j]?.getD 0).toNat : Int))) (hl : l.length = n) :
    (convert 131 9 (.slice (some ⟨b, 0, none⟩) n n)).run Tryz.prog w = .ok (.string ⟨l.toArray⟩) w := by
  subst hl
  refine run_convert_bytes_back w 131 9 5 ⟨b, 0, none⟩ l.length l Tryz.underlying131 Tryz.underlying5 Tryz.underlying9 ?_
  intro j hj
  rw [add_off, Nat.zero_add, h.cell hj, List.getElem?_eq_getElem hj]
  rfl

theorem pad_at (n : Nat) (l : Bytes) (hn : l.length ≤ n) (j : Nat) (hj : j < n) : ((pad n l)[j]?.getD 0) = if n - l.length ≤ j ∧ j < n - l.length + l.length then l[j - (n - l.length)]?.getD 0 else 48 := by
  unfold pad
  by_cases h : j < n - l.length
  · rw [List.getElem?_append_left (by rw [List.length_replicate]; exact h), if_neg (by omega), List.getElem?_replicate, if_pos h]; rfl
  · rw [List.getElem?_append_right (by rw [List.length_replicate]; omega), List.length_replicate, if_pos (by omega)]

set_option maxRecDepth 100000 in
set_option maxHeartbeats 1000000 in
theorem ref_wide (s : ByteArray) (n : Nat) (w : World) (hs : s.size ≤ n) (hp : 0 < s.size) (hn : n ≤ 1099511627776) :
    Calls Tryz.prog 136 #[.string s, .int .i64 (n : Int)] w fun e w' => ∃ c, Is c (pad n s.toList) ∧ e = .returned (.string c) ∧ Below w.heap.size w w' := by
  have hmk := run_make_row' (P := Tryz.prog) 131 5 (.int .u8 0) 1 Tryz.underlying131 byte_info rfl .i64 .i64 n (by omega) (by omega)
  have n0 : (0 : Int) ≤ (n : Int) := by omega
  have n1 : (n : Int) ≤ 1099511627776 := by omega
  have s1 : (s.size : Int) ≤ (n : Int) := by omega
  have HS := Lib.hid hs; clear hn hs
  go_enter Tryz.func136, Tryz.ntmps136
  go_wp2_with fail
  have hr : (w.alloc (.cells (madeCells #[.int .u8 0] n) 5)).rowIs w.heap.size 5 n (fun _ => .int .u8 0) := World.rowIs_made w _ n _
  have hB : Below w.heap.size w (w.alloc (.cells (madeCells #[.int .u8 0] n) 5)) := (Below.refl w.heap.size w).alloc (Nat.le_refl _) _
  generalize w.alloc (.cells (madeCells #[.int .u8 0] n) 5) = W1 at *
  obtain ⟨b, hb⟩ : ∃ b, b = w.heap.size := ⟨_, rfl⟩
  rw [← hb] at hr hB ⊢
  have Hb := Lib.hid hb; clear hb hmk
  go_loopw [6] (fun i wr => ∃ k : Nat, k ≤ n ∧ i = .int .i64 (k : Int) ∧ wr.rowIs b 5 n (fun j => if j < k then .int .u8 48 else .int .u8 0) ∧ Below b w wr) (fun i _ => n - (intOf i).toNat)
  case atStart => exact ⟨0, Nat.zero_le _, rfl, hr.congr (fun i _ => by simp), hB⟩
  case round =>
    obtain ⟨k, hk, rfl, hrk, hbk⟩ := hrel
    by_cases hlt : k < n
    · have g1 : decide ((k : Int) < (n : Int)) = true := by simpa using hlt
      have g2 : decide (k < n) = true := by simpa using hlt
      have ck := hrk.cell hlt
      have fk := hrk.frozen k
      go_wp2_with fail
      refine ⟨⟨k + 1, by omega, by go_num, (hrk.set k (.int .u8 48)).congr (fun j _ => ?_), hbk.setCell (p := ⟨b, k, none⟩) (Nat.le_refl _) _⟩, by simp [intOf]; omega⟩
      by_cases h1 : j = k
      · rw [if_pos h1, if_pos (by omega)]
      · rw [if_neg h1]
        by_cases h2 : j < k
        · rw [if_pos h2, if_pos (by omega)]
        · rw [if_neg h2, if_neg (by omega)]
    · obtain rfl : k = n := by omega
      clear hlt hk
      replace hrk : wr.rowIs b 5 k (fun _ => .int .u8 48) := hrk.congr (fun j hj => if_pos hj)
      obtain ⟨off, hoff⟩ : ∃ off, k - s.size = off := ⟨_, rfl⟩
      have hk2 : k - off = s.size := by omega
      have hne : ¬ k = off := by omega
      have hcp := run_copy_string (P := Tryz.prog) wr 131 9 3 5 b off s.size s.size s Tryz.underlying131 byte_size (Nat.le_refl _) (fun j hj => by rw [hrk.cell (by omega)]; rfl) (fun j _ => hrk.frozen _)
      obtain ⟨hr2, hb2⟩ := copied_row (off := off) (t := s) hrk hbk (Nat.le_refl b)
      generalize wr.setCells b off (s.data.toList.map fun x => Value.int .u8 (x.toNat : Int)) = w2 at *
      have hlen : s.toList.length = s.size := toList_length s
      have hcv := conv_row w2 b k (pad k s.toList) (hr2.congr (fun j hj => by
        rw [pad_at k s.toList (by omega) j hj, hlen, hoff]
        by_cases h1 : off ≤ j ∧ j < off + s.size
        · rw [if_pos h1, if_pos h1]
        · rw [if_neg h1, if_neg h1]; rfl)) (pad_length (by omega))
      have HO := Lib.hid hlen; clear hlen hr2 hrk
      go_wp2_with fail
      go_ret
      exact ⟨_, toList_lit _, rfl, by rw [← Hb.out]; exact hb2⟩

end Go.Proofs.YtgkiaonakiflbaaGreatDoor

/- The contract of metrolabref01's paper. -/
namespace Go.Proofs.YtgkiaonakiflbaaGreatDoor
open Go.RowKit

/-- What a column computes. -/
def colD (add : Bool) (x y c : Int) : Int := if add = true then (x + y + c) % 10 else (x - y - c) % 10
def colC (add : Bool) (x y c : Int) : Int := if add = true then (x + y + c) / 10 else -((x - y - c) / 10)
theorem ref_column (x y c : Int) (add : Bool) (w : World) (hx0 : 48 ≤ x) (hx : x ≤ 57) (hy0 : 48 ≤ y) (hy : y ≤ 57) (hc0 : 0 ≤ c) (hc : c ≤ 1) :
    Calls Tryz.prog 137 #[.int .u8 x, .int .u8 y, .int .i64 c, .bool add] w fun e w' => e = .returned (.tuple #[.int .u8 (48 + colD add (x - 48) (y - 48) c), .int .i64 (colC add (x - 48) (y - 48) c)]) ∧ w = w' := by
  have h1 : 48 + (x - 48) = x := by omega
  have h2 : 48 + (y - 48) = y := by omega
  cases add with
  | true =>
    have h := ref_column_add (x - 48) (y - 48) c w (by omega) (by omega) (by omega) (by omega) hc0 hc
    rw [h1, h2] at h
    exact h
  | false =>
    have h := ref_column_sub (x - 48) (y - 48) c w (by omega) (by omega) (by omega) (by omega) hc0 hc
    rw [h1, h2] at h
    exact h
theorem col_range (add : Bool) (x y c : Int) (hx0 : 48 ≤ x) (hx : x ≤ 57) (hy0 : 48 ≤ y) (hy : y ≤ 57) (hc0 : 0 ≤ c) (hc : c ≤ 1) :
    0 ≤ colD add (x - 48) (y - 48) c ∧ colD add (x - 48) (y - 48) c < 10 ∧ 0 ≤ colC add (x - 48) (y - 48) c ∧ colC add (x - 48) (y - 48) c ≤ 1 := by
  unfold colD colC
  split <;> omega

/-- The sum or the difference of digits behind a place. -/
def Low (add : Bool) (A B L : Bytes) (k : Nat) (c : Int) : Prop :=
  L.all isDig = true ∧ k + L.length = A.length ∧ (if add = true then (dval (A.drop k) : Int) + dval (B.drop k) = dval L + c * 10 ^ L.length else (dval (A.drop k) : Int) - dval (B.drop k) = dval L - c * 10 ^ L.length)

theorem low_step {add : Bool} {A B L : Bytes} {k : Nat} {c : Int} {a b : ByteArray} (ha : a.toList = A) (hb : b.toList = B) (hl : A.length = B.length) (hA : A.all isDig = true) (hB : B.all isDig = true) (h : Low add A B L (k + 1) c) (hc0 : 0 ≤ c) (hc : c ≤ 1) (h1 : k < a.size) (h2 : k < b.size) (d : UInt8)
    (hd : (d.toNat : Int) = 48 + colD add ((a[k].toNat : Int) - 48) ((b[k].toNat : Int) - 48) c) : Low add A B (d :: L) k (colC add ((a[k].toNat : Int) - 48) ((b[k].toNat : Int) - 48) c) := by
  obtain ⟨g1, g2, g3⟩ := h
  have da := dig_at (s := a) (by rw [ha]; exact hA) k h1
  have db := dig_at (s := b) (by rw [hb]; exact hB) k h2
  have hr := col_range add _ _ c da.1 da.2 db.1 db.2 hc0 hc
  have ea : A.drop k = a[k] :: A.drop (k + 1) := by
    have := byte_at a k h1
    rw [ha] at this
    obtain ⟨hlt, he⟩ := List.getElem?_eq_some_iff.1 this
    rw [List.drop_eq_getElem_cons hlt, he]
  have eb : B.drop k = b[k] :: B.drop (k + 1) := by
    have := byte_at b k h2
    rw [hb] at this
    obtain ⟨hlt, he⟩ := List.getElem?_eq_some_iff.1 this
    rw [List.drop_eq_getElem_cons hlt, he]
  have la : (A.drop (k + 1)).length = L.length := by rw [List.length_drop]; omega
  have lb : (B.drop (k + 1)).length = L.length := by rw [List.length_drop]; omega
  refine ⟨?_, by simp; omega, ?_⟩
  · rw [List.all_cons, g1, Bool.and_true, isDig_iff]; omega
  · rw [ea, eb, dval_cons, dval_cons, dval_cons, la, lb, List.length_cons, digv_eq, digv_eq, digv_eq]
    have e1 : ((a[k].toNat - 48 : Nat) : Int) = (a[k].toNat : Int) - 48 := by omega
    have e2 : ((b[k].toNat - 48 : Nat) : Int) = (b[k].toNat : Int) - 48 := by omega
    have e3 : ((d.toNat - 48 : Nat) : Int) = colD add ((a[k].toNat : Int) - 48) ((b[k].toNat : Int) - 48) c := by omega
    rw [Int.natCast_add, Int.natCast_mul, Int.natCast_add, Int.natCast_mul, Int.natCast_add, Int.natCast_mul, e1, e2, e3]
    clear e1 e2 e3 hd da db hr ea eb
    generalize (a[k].toNat : Int) - 48 = x at *
    generalize (b[k].toNat : Int) - 48 = y at *
    have hp : ((10 ^ L.length : Nat) : Int) = 10 ^ L.length := by rw [Int.natCast_pow]; rfl
    rw [hp, Int.pow_succ]
    generalize (10 : Int) ^ L.length = p at *
    unfold colD colC
    cases add with
    | true =>
      simp only [if_true] at g3 ⊢
      have hm : (x + y + c) * p = ((x + y + c) % 10 + (x + y + c) / 10 * 10) * p := by congr 1; omega
      rw [Int.add_mul, Int.add_mul, Int.add_mul, Int.mul_assoc, Int.mul_comm 10 p] at hm
      omega
    | false =>
      simp only [Bool.false_eq_true, if_false] at g3 ⊢
      have hm : (x - y - c) * p = ((x - y - c) % 10 + (x - y - c) / 10 * 10) * p := by congr 1; omega
      rw [Int.sub_mul, Int.sub_mul, Int.add_mul, Int.mul_assoc, Int.mul_comm 10 p] at hm
      rw [Int.neg_mul]
      omega

/-- What stands in the row of the result. -/
def rowF (L : Bytes) (k : Nat) : Nat → Value := fun j => if j < k then .int .u8 0 else .int .u8 ((L[j - k]?.getD 0).toNat : Int)
theorem rowF_step {w : World} {b n k : Nat} {L : Bytes} (h : w.rowIs b 5 n (rowF L (k + 1))) (d : UInt8) (v : Int) (hv : (d.toNat : Int) = v) : (w.setCell ⟨b, k, none⟩ (.int .u8 v)).rowIs b 5 n (rowF (d :: L) k) := by
  refine (h.set k (.int .u8 v)).congr (fun j _ => ?_)
  unfold rowF
  by_cases h1 : j = k
  · rw [if_pos h1, if_neg (by omega), h1, Nat.sub_self, ← hv]; rfl
  · rw [if_neg h1]
    by_cases h2 : j < k
    · rw [if_pos (by omega), if_pos h2]
    · rw [if_neg (by omega), if_neg h2, show j - k = (j - (k + 1)) + 1 by omega, List.getElem?_cons_succ]

def papV (add : Bool) (x y : Nat) : Nat := if add = true then x + y else x - y
theorem low_end {add : Bool} {A B L : Bytes} {c : Int} {x y n : Nat} (h : Low add A B L 0 c) (hA : dval A = x) (hB : dval B = y) (hl : A.length = n + 1) (hx : x < 10 ^ n) (hy : y < 10 ^ n) (hs : add = false → y ≤ x) (hc0 : 0 ≤ c) (hc : c ≤ 1) :
    dval L = papV add x y := by
  unfold papV
  obtain ⟨g1, g2, g3⟩ := h
  have hd := dval_lt L (fun z hz => List.all_eq_true.1 g1 z hz)
  have hlen : L.length = n + 1 := by omega
  rw [List.drop_zero, List.drop_zero, hA, hB, hlen] at g3
  rw [hlen, Nat.pow_succ] at hd
  have hp : (10 : Int) ^ (n + 1) = ((10 ^ n : Nat) : Int) * 10 := by rw [Int.pow_succ, Int.natCast_pow]; rfl
  rw [hp] at g3
  generalize 10 ^ n = p at *
  rcases (show c = 0 ∨ c = 1 by omega) with rfl | rfl
  · cases add with
    | true => simp only [if_true] at g3 ⊢; omega
    | false => have := hs rfl; simp only [Bool.false_eq_true, if_false] at g3 ⊢; omega
  · cases add with
    | true => simp only [if_true] at g3 ⊢; omega
    | false => have := hs rfl; simp only [Bool.false_eq_true, if_false] at g3 ⊢; omega

set_option maxRecDepth 100000 in
set_option maxHeartbeats 1000000 in
theorem ref_paper (a b : ByteArray) (x y : Nat) (add : Bool) (w : World) (ha : IsM a x) (hb : IsM b y) (h1 : a.size ≤ 1073741824) (h2 : b.size ≤ 1073741824) (hs : add = false → y ≤ x) :
    Calls Tryz.prog 115 #[.string a, .string b, .bool add] w fun e w' => ∃ c, IsM c (papV add x y) ∧ e = .returned (.string c) ∧ Below w.heap.size w w' := by
  obtain ⟨n, hn⟩ : ∃ n, n = max a.size b.size + 1 := ⟨_, rfl⟩
  have hnc : max (a.size : Int) (b.size : Int) + 1 = (n : Int) := by omega
  have n2 : n ≤ 1099511627776 := by omega
  have hmk := run_make_row' (P := Tryz.prog) 131 5 (.int .u8 0) 1 Tryz.underlying131 byte_info rfl .i64 .i64 n (by omega) (by omega)
  have n0 : (0 : Int) ≤ (n : Int) := by omega
  have n1 : (n : Int) ≤ 1099511627776 := by omega
  have pa : 0 < a.size := by rw [ha.size]; exact Lib.nDigits_pos x
  have pb : 0 < b.size := by rw [hb.size]; exact Lib.nDigits_pos y
  have sa : a.size < n := by omega
  have sb : b.size < n := by omega
  have HN := Lib.hid hn; clear hn
  go_enter Tryz.func115, Tryz.ntmps115
  go_wp2_with fail
  refine (ref_wide a n _ (by omega) pa n2).mono ?_
  rintro e w1 ⟨c, hc, rfl, hb1⟩
  go_wp2_with fail
  refine (ref_wide b n _ (by omega) pb n2).mono ?_
  rintro e w2 ⟨d, hd, rfl, hb2⟩
  have hB2 := hb1.trans (hb2.mono hb1.size)
  go_wp2_with fail
  have hr : (w2.alloc (.cells (madeCells #[.int .u8 0] n) 5)).rowIs w2.heap.size 5 n (rowF [] n) := (World.rowIs_made w2 _ n _).congr (fun j hj => (if_pos hj).symm)
  have hB : Below w.heap.size w (w2.alloc (.cells (madeCells #[.int .u8 0] n) 5)) := hB2.alloc hB2.size _
  have hwb : w.heap.size ≤ w2.heap.size := hB2.size
  generalize w2.alloc (.cells (madeCells #[.int .u8 0] n) 5) = W1 at *
  generalize w2.heap.size = bb at *
  have lc : c.size = n := by rw [hc.size, pad_length (by rw [toList_length]; omega)]
  have ld : d.size = n := by rw [hd.size, pad_length (by rw [toList_length]; omega)]
  have hA : Hid (c.toList.all isDig = true) := by show _ = _; rw [hc.out]; exact pad_dig ha.all
  have hD : Hid (d.toList.all isDig = true) := by show _ = _; rw [hd.out]; exact pad_dig hb.all
  have vA : Hid (dval c.toList = x) := by show _ = _; rw [hc.out, pad_dval, ha.out, dval_decDigits]
  have vD : Hid (dval d.toList = y) := by show _ = _; rw [hd.out, pad_dval, hb.out, dval_decDigits]
  have LC := Lib.hid lc; have LD := Lib.hid ld
  have kc : ∀ k, k < n → k < c.size := by omega
  have kd : ∀ k, k < n → k < d.size := by omega
  clear lc ld hmk hc hd hb1 hb2 hB2
  go_loopw [9, 10] (fun cv i wr => ∃ (k : Nat) (cc : Int) (L : Bytes), k ≤ n ∧ cv = .int .i64 cc ∧ i = .int .i64 ((k : Int) - 1) ∧ 0 ≤ cc ∧ cc ≤ 1 ∧ Hid (Low add c.toList d.toList L k cc) ∧ wr.rowIs bb 5 n (rowF L k) ∧ Below w.heap.size w wr) (fun _ i _ => (intOf i + 1).toNat)
  case atStart =>
    refine ⟨n, 0, [], Nat.le_refl _, rfl, rfl, by omega, by omega, ⟨rfl, by rw [toList_length]; simp; exact LC.out.symm, ?_⟩, hr, hB⟩
    rw [List.drop_of_length_le (by rw [toList_length]; exact Nat.le_of_eq LC.out), List.drop_of_length_le (by rw [toList_length]; exact Nat.le_of_eq LD.out)]
    cases add <;> simp [dval_nil]
  case round =>
    obtain ⟨k, cc, L, hk, rfl, rfl, c0, c1, hL, hrk, hbk⟩ := hrel
    cases k with
    | zero =>
      have hv := low_end hL.out vA.out vD.out (n := n - 1) (by rw [toList_length, LC.out]; omega)
        (by have := Lib.lt_pow_nDigits x; rw [← ha.size] at this; exact Nat.lt_of_lt_of_le this (Nat.pow_le_pow_right (by omega) (by omega)))
        (by have := Lib.lt_pow_nDigits y; rw [← hb.size] at this; exact Nat.lt_of_lt_of_le this (Nat.pow_le_pow_right (by omega) (by omega))) hs c0 c1
      have hLl : L.length = n := by have := hL.out.2.1; rw [toList_length, LC.out] at this; omega
      have hcv := conv_row wr bb n L (hrk.congr (fun j _ => by unfold rowF; rw [if_neg (by omega)]; rfl)) hLl
      have HV := Lib.hid hv; have HL := Lib.hid hLl; clear hv hLl hs
      go_wp2_with fail
      refine (ref_bare ⟨L.toArray⟩ _ (by rw [← toList_length, toList_lit, HL.out]; omega) (by rw [toList_lit]; exact hL.out.1) (by rw [← toList_length, toList_lit, HL.out]; omega)).mono ?_
      rintro e w5 ⟨q, hq, rfl, rfl⟩
      go_wp2_with fail
      go_ret
      rw [toList_lit, HV.out] at hq
      exact ⟨q, hq, rfl, hbk⟩
    | succ k =>
      have g1 := kc k hk
      have g2 := kd k hk
      obtain ⟨da0, da1⟩ := dig_at hA.out k g1
      obtain ⟨db0, db1⟩ := dig_at hD.out k g2
      have ck := hrk.cell (i := k) (by omega)
      rw [show rowF L (k + 1) k = .int .u8 0 from if_pos (by omega)] at ck
      have fk := hrk.frozen k
      have hkn : (k : Int) < n := by omega
      obtain ⟨hr1, hr2, hr3, hr4⟩ := col_range add _ _ cc da0 da1 db0 db1 c0 c1
      have hu : ∃ u : UInt8, Hid ((u.toNat : Int) = 48 + colD add ((c[k].toNat : Int) - 48) ((d[k].toNat : Int) - 48) cc) := ⟨UInt8.ofNat (48 + colD add ((c[k].toNat : Int) - 48) ((d[k].toNat : Int) - 48) cc).toNat, by show _ = _; rw [UInt8.toNat_ofNat']; omega⟩
      obtain ⟨u, hu⟩ := hu
      go_wp2_with fail
      go_region_with (go_at_call 137; refine (ref_column _ _ _ add _ da0 da1 db0 db1 c0 c1).mono ?_; rintro e w3 ⟨rfl, rfl⟩)
      all_goals
        go_wp2_with fail
        go_roundw
        case rel => exact ⟨k, _, u :: L, by omega, rfl, by go_num, hr3, hr4, low_step rfl rfl (by rw [toList_length, toList_length]; exact LC.out.trans LD.out.symm) hA.out hD.out hL.out c0 c1 g1 g2 u hu.out, rowF_step hrk u _ hu.out, (hbk.setCell (p := ⟨bb, k, none⟩) hwb _).drew⟩
        case measure => simp [intOf]

end Go.Proofs.YtgkiaonakiflbaaGreatDoor

/- The contract of metrolabref01's product. -/
namespace Go.Proofs.YtgkiaonakiflbaaGreatDoor
open Go.RowKit

theorem int_info : (Tryz.prog.info? 3).map (fun i => (i.zero, i.size, i.bytes)) = some (some (.int .i64 0), 1, 8) := by kernel_rfl

/-- The number that columns are, the first one being the highest. -/
def csum (f : Nat → Int) : Nat → Int
  | 0 => 0
  | n + 1 => 10 * csum f n + f n
theorem csum_succ (f : Nat → Int) (n : Nat) : csum f (n + 1) = 10 * csum f n + f n := rfl
theorem csum_zero (n : Nat) : csum (fun _ => 0) n = 0 := by
  induction n with
  | zero => rfl
  | succ n ih => rw [csum_succ, ih]; rfl
theorem csum_congr {f g : Nat → Int} {n : Nat} (h : ∀ j, j < n → f j = g j) : csum f n = csum g n := by
  induction n with
  | zero => rfl
  | succ n ih => rw [csum_succ, csum_succ, ih (fun j hj => h j (by omega)), h n (by omega)]
theorem csum_upd (f : Nat → Int) (i : Nat) (v : Int) (n : Nat) : csum (upd f i v) (i + 1 + n) = csum f (i + 1 + n) + (v - f i) * 10 ^ n := by
  induction n with
  | zero =>
    rw [Nat.add_zero, csum_succ, csum_succ, csum_congr (g := f) (fun j hj => by unfold upd; rw [if_neg (by omega)])]
    unfold upd; simp; omega
  | succ n ih =>
    rw [← Nat.add_assoc, csum_succ, csum_succ, ih, show upd f i v (i + 1 + n) = f (i + 1 + n) by unfold upd; rw [if_neg (by omega)], Int.pow_succ, Int.mul_add]
    have : 10 * ((v - f i) * 10 ^ n) = (v - f i) * (10 ^ n * 10) := by rw [Int.mul_comm 10, Int.mul_assoc]
    omega

/-- The columns behind some pairs of digits. -/
structure Cols (A B : Bytes) (i k : Nat) (f : Nat → Int) : Prop where
  val : csum f (A.length + B.length) = (dval (A.take i) : Int) * 10 ^ (A.length - i) * dval B + (digv (A[i]?.getD 48) : Int) * 10 ^ (A.length - 1 - i) * (dval (B.take k) * 10 ^ (B.length - k))
  low : ∀ j, 0 ≤ f j
  top : ∀ j, f j ≤ 81 * (i + 1)
  far : ∀ j, i + k + 1 ≤ j → f j ≤ 81 * i

theorem Cols.step {a b : ByteArray} {A B : Bytes} {i k : Nat} {f : Nat → Int} (ha : a.toList = A) (hb : b.toList = B) (hA : A.all isDig = true) (hB : B.all isDig = true) (h : Cols A B i k f) (hi : i < a.size) (hk : k < b.size) :
    Cols A B i (k + 1) (upd f (i + k + 1) (f (i + k + 1) + ((a[i].toNat : Int) - 48) * ((b[k].toNat : Int) - 48))) := by
  have da := dig_at (s := a) (by rw [ha]; exact hA) i hi
  have db := dig_at (s := b) (by rw [hb]; exact hB) k hk
  have la : a.size = A.length := by rw [← ha, toList_length]
  have lb : b.size = B.length := by rw [← hb, toList_length]
  have hd : (digv (A[i]?.getD 48) : Int) = (a[i].toNat : Int) - 48 := by
    have := byte_at a i hi
    rw [ha] at this
    rw [this]; show (digv a[i] : Int) = _
    rw [digv_eq]; omega
  have hv := dval_take (s := b) (by rw [hb]; exact hB) k hk
  rw [hb] at hv
  have hm0 : 0 ≤ ((a[i].toNat : Int) - 48) * ((b[k].toNat : Int) - 48) := Int.mul_nonneg (by omega) (by omega)
  have hm1 : ((a[i].toNat : Int) - 48) * ((b[k].toNat : Int) - 48) ≤ 9 * 9 := Int.mul_le_mul (by omega) (by omega) (by omega) (by omega)
  have h1 := h.val
  rw [hd] at h1
  refine ⟨?_, ?_, ?_, ?_⟩
  · rw [hd]
    obtain ⟨r, hr⟩ : ∃ r, A.length - 1 - i + (B.length - (k + 1)) = r := ⟨_, rfl⟩
    have hN : A.length + B.length = i + k + 1 + 1 + r := by omega
    rw [hN, csum_upd, ← hN, h1, hv, show (10 : Int) ^ (B.length - k) = 10 ^ (B.length - (k + 1)) * 10 by rw [show B.length - k = B.length - (k + 1) + 1 by omega, Int.pow_succ], ← hr, Int.pow_add]
    generalize (a[i].toNat : Int) - 48 = X
    generalize (b[k].toNat : Int) - 48 = Y
    generalize (10 : Int) ^ (A.length - 1 - i) = P
    generalize (10 : Int) ^ (B.length - (k + 1)) = Q
    generalize (dval (B.take k) : Int) = D
    generalize (dval (A.take i) : Int) * 10 ^ (A.length - i) * dval B = Z
    have e : f (i + k + 1) + X * Y - f (i + k + 1) = X * Y := by omega
    rw [e, Int.add_mul, Int.mul_add, Int.add_assoc]
    congr 1
    congr 1
    · rw [← Int.mul_assoc D, Int.mul_comm (D * Q) 10, ← Int.mul_assoc 10 D, ← Int.mul_assoc]
    · rw [Int.mul_assoc X P, ← Int.mul_assoc P Y, Int.mul_comm P Y, Int.mul_assoc Y P, ← Int.mul_assoc X Y]
  · intro j; unfold upd; split
    · have := h.low (i + k + 1); omega
    · exact h.low j
  · intro j; unfold upd; split
    · have := h.far (i + k + 1) (Nat.le_refl _); omega
    · exact h.top j
  · intro j hj; unfold upd; rw [if_neg (by omega)]; exact h.far j (by omega)

theorem Cols.next {A B : Bytes} {i : Nat} {f : Nat → Int} (hA : i < A.length) (h : Cols A B i B.length f) : Cols A B (i + 1) 0 f := by
  have hget : A[i]? = some A[i] := List.getElem?_eq_getElem hA
  have ht : A.take (i + 1) = A.take i ++ [A[i]] := by rw [List.take_add_one, hget]; rfl
  have h1 := h.val
  rw [hget] at h1
  refine ⟨?_, h.low, fun j => ?_, fun j _ => h.top j⟩
  · rw [h1, ht, dval_snoc, List.take_zero, dval_nil, List.take_of_length_le (Nat.le_refl _), Nat.sub_self, show A.length - i = A.length - (i + 1) + 1 by omega, show A.length - 1 - i = A.length - (i + 1) by omega, Int.pow_succ]
    show _ = _
    rw [Int.natCast_add, Int.natCast_mul]
    show _ + (digv A[i] : Int) * _ * (_ * 1) = _
    generalize (digv A[i] : Int) = X
    generalize (10 : Int) ^ (A.length - (i + 1)) = P
    generalize (dval (A.take i) : Int) = D
    generalize (dval B : Int) = E
    rw [show ((0 : Nat) : Int) = 0 from rfl, Int.zero_mul, Int.mul_zero, Int.add_zero, Int.mul_one, Int.add_mul, Int.add_mul]
    congr 1
    rw [show ((10 : Nat) : Int) = 10 from rfl, Int.mul_comm P, ← Int.mul_assoc, Int.mul_comm D]
  · have := h.top j; omega

theorem Cols.start (A B : Bytes) : Cols A B 0 0 (fun _ => 0) := by
  refine ⟨?_, fun _ => by omega, fun _ => by omega, fun _ _ => by omega⟩
  rw [csum_zero, List.take_zero, List.take_zero, dval_nil]; simp

/-- Carrying from the last column on. -/
def Carried10 (f : Nat → Int) (N k : Nat) (L : Bytes) (c : Int) : Prop :=
  L.all isDig = true ∧ k + L.length = N ∧ csum f N = (csum f k + c) * 10 ^ L.length + dval L
theorem carried10_step {f : Nat → Int} {N k : Nat} {L : Bytes} {c : Int} (h : Carried10 f N (k + 1) L c) (d : UInt8) (_hf : 0 ≤ c + f k) (hd : (d.toNat : Int) = 48 + (c + f k) % 10) : Carried10 f N k (d :: L) ((c + f k) / 10) := by
  obtain ⟨g1, g2, g3⟩ := h
  refine ⟨?_, by simp; omega, ?_⟩
  · rw [List.all_cons, g1, Bool.and_true, isDig_iff]; omega
  · rw [g3, csum_succ, List.length_cons, Int.pow_succ, dval_cons, digv_eq]
    have e : ((d.toNat - 48 : Nat) : Int) = (c + f k) % 10 := by omega
    have hp : ((10 ^ L.length : Nat) : Int) = 10 ^ L.length := by rw [Int.natCast_pow]; rfl
    rw [Int.natCast_add, Int.natCast_mul, e, hp]
    generalize (10 : Int) ^ L.length = p
    have hm : (10 * csum f k + f k + c) * p = ((csum f k + (c + f k) / 10) * 10 + (c + f k) % 10) * p := by congr 1; omega
    rw [hm, Int.add_mul, Int.mul_assoc, Int.mul_comm 10 p]
    omega

theorem carried10_end {f : Nat → Int} {N : Nat} {L : Bytes} {c v : Int} (h : Carried10 f N 0 L c) (hv : csum f N = v) (hlt : v < 10 ^ N) (hc : 0 ≤ c) : (dval L : Int) = v := by
  obtain ⟨g1, g2, g3⟩ := h
  have hlen : L.length = N := by omega
  rw [hv, hlen, show csum f 0 = 0 from rfl, Int.zero_add] at g3
  rcases Int.lt_or_le 0 c with h0 | h0
  · have : 1 * (10 : Int) ^ N ≤ c * 10 ^ N := Int.mul_le_mul_of_nonneg_right (by omega) (by
      have h1 : ((10 ^ N : Nat) : Int) = (10 : Int) ^ N := by rw [Int.natCast_pow]; rfl
      rw [← h1]; exact Int.natCast_nonneg _)
    omega
  · obtain rfl : c = 0 := by omega
    rw [Int.zero_mul] at g3; omega

set_option maxRecDepth 100000 in
set_option maxHeartbeats 2000000 in
theorem ref_product (a b : ByteArray) (x y : Nat) (w : World) (ha : IsM a x) (hb : IsM b y) (h1 : a.size ≤ 1073741824) (h2 : b.size ≤ 1073741824) :
    Calls Tryz.prog 134 #[.string a, .string b] w fun e w' => ∃ c, IsM c (x * y) ∧ e = .returned (.string c) ∧ Below w.heap.size w w' := by
  obtain ⟨N, hN⟩ : ∃ N, N = a.size + b.size := ⟨_, rfl⟩
  have hNc : (a.size : Int) + (b.size : Int) = (N : Int) := by omega
  have hmk := run_make_row' (P := Tryz.prog) 160 3 (.int .i64 0) 8 Tryz.underlying160 int_info rfl .i64 .i64 N (by omega) (by omega)
  have hmk2 := run_make_row' (P := Tryz.prog) 131 5 (.int .u8 0) 1 Tryz.underlying131 byte_info rfl .i64 .i64 N (by omega) (by omega)
  have n0 : (0 : Int) ≤ (N : Int) := by omega
  have n1 : (N : Int) ≤ 2147483648 := by omega
  have a1 : (a.size : Int) ≤ 1073741824 := by omega
  have b1 : (b.size : Int) ≤ 1073741824 := by omega
  have HN := Lib.hid hN; clear hN
  have hA : Hid (a.toList.all isDig = true) := ha.all
  have hD : Hid (b.toList.all isDig = true) := hb.all
  go_enter Tryz.func134, Tryz.ntmps134
  go_wp2_with fail
  have hr : (w.alloc (.cells (madeCells #[.int .i64 0] N) 3)).rowIs w.heap.size 3 N (fun j => .int .i64 ((fun _ => 0 : Nat → Int) j)) := World.rowIs_made w _ N _
  have hB : Below w.heap.size w (w.alloc (.cells (madeCells #[.int .i64 0] N) 3)) := (Below.refl w.heap.size w).alloc (Nat.le_refl _) _
  generalize w.alloc (.cells (madeCells #[.int .i64 0] N) 3) = W1 at *
  obtain ⟨bc, hbc⟩ : ∃ bc, bc = w.heap.size := ⟨_, rfl⟩
  rw [← hbc] at hr hB ⊢
  have Hbc := Lib.hid hbc; clear hbc hmk
  go_loopw [6] (fun i wr => ∃ (k : Nat) (f : Nat → Int), k ≤ a.size ∧ i = .int .i64 (k : Int) ∧ Hid (Cols a.toList b.toList k 0 f) ∧ wr.rowIs bc 3 N (fun j => .int .i64 (f j)) ∧ Below bc w wr) (fun i _ => a.size - (intOf i).toNat)
  case atStart => exact ⟨0, fun _ => 0, Nat.zero_le _, rfl, Cols.start _ _, hr, hB⟩
  case round =>
    obtain ⟨i, f, hi, rfl, hf, hrf, hbr⟩ := hrel
    by_cases hlt : i < a.size
    · obtain ⟨da0, da1⟩ := dig_at hA.out i hlt
      have hia : (i : Int) < a.size := by omega
      go_wp2_with fail
      go_loopw [7] (fun q wr => ∃ (k : Nat) (f : Nat → Int), k ≤ b.size ∧ q = .int .i64 (k : Int) ∧ Hid (Cols a.toList b.toList i k f) ∧ wr.rowIs bc 3 N (fun j => .int .i64 (f j)) ∧ Below bc w wr) (fun q _ => b.size - (intOf q).toNat)
      case atStart => exact ⟨0, f, Nat.zero_le _, rfl, hf, hrf, hbr⟩
      case round =>
        obtain ⟨k, g, hk, rfl, hg, hrg, hbg⟩ := hrel
        by_cases hkt : k < b.size
        · obtain ⟨db0, db1⟩ := dig_at hD.out k hkt
          have hkb : (k : Int) < b.size := by omega
          have hin : i + k + 1 < N := by have := HN.out; omega
          have ck := hrg.cell hin
          have fk := hrg.frozen (i + k + 1)
          have low := hg.out.low (i + k + 1)
          have top := hg.out.top (i + k + 1)
          obtain ⟨v, hv⟩ : ∃ v, v = g (i + k + 1) := ⟨_, rfl⟩
          rw [← hv] at ck low top
          have Hv := Lib.hid hv; clear hv
          have m0 : 0 ≤ ((a[i].toNat : Int) - 48) * ((b[k].toNat : Int) - 48) := Int.mul_nonneg (by omega) (by omega)
          have m1 : ((a[i].toNat : Int) - 48) * ((b[k].toNat : Int) - 48) ≤ 9 * 9 := Int.mul_le_mul (by omega) (by omega) (by omega) (by omega)
          have t2 : v ≤ 100000000000 := by omega
          have k0 : (0 : Int) ≤ (i : Int) + k + 1 := by omega
          have k1 : (i : Int) + k + 1 < N := by omega
          go_wp2_with fail
          go_region
          have hs2 := hg.out.step rfl rfl hA.out hD.out hlt hkt
          rw [← Hv.out] at hs2
          have hr2 := (hrg.set (i + k + 1) (.int .i64 (v + ((a[i].toNat : Int) - 48) * ((b[k].toNat : Int) - 48)))).congr (g := fun j => .int .i64 (upd g (i + k + 1) (v + ((a[i].toNat : Int) - 48) * ((b[k].toNat : Int) - 48)) j)) (fun j _ => by
            unfold upd
            by_cases hj : j = i + k + 1
            · rw [if_pos hj, if_pos hj]
            · rw [if_neg hj, if_neg hj])
          go_wp2_with fail
          go_roundw
          case rel => exact ⟨k + 1, _, by omega, by go_num, hs2, hr2, (hbg.setCell (p := ⟨bc, i + k + 1, none⟩) (Nat.le_refl _) _).drew⟩
          case measure => simp [intOf]; omega
        · have hkk : k = b.toList.length := by rw [toList_length]; omega
          have hnx := (show Cols a.toList b.toList i b.toList.length g from hkk ▸ hg.out).next (by rw [toList_length]; exact hlt)
          have HX := Lib.hid hnx; clear hnx hkk
          go_wp2_with fail
          exact ⟨⟨i + 1, g, by omega, by go_num, HX.out, hrg, hbg⟩, by simp [intOf]; omega⟩
    · have hii : i = a.toList.length := by rw [toList_length]; omega
      have hval : csum f N = ((x * y : Nat) : Int) := by
        have h3 := hf.out.val
        rw [hii, List.take_of_length_le (Nat.le_refl _), Nat.sub_self, List.take_zero, dval_nil, toList_length, toList_length, ← HN.out] at h3
        rw [h3, ha.out, hb.out, dval_decDigits, dval_decDigits]
        simp
      have hxy : ((x * y : Nat) : Int) < 10 ^ N := by
        have e1 := Lib.lt_pow_nDigits x
        have e2 := Lib.lt_pow_nDigits y
        rw [← ha.size] at e1; rw [← hb.size] at e2
        have e3 : x * y < 10 ^ a.size * 10 ^ b.size := Nat.mul_lt_mul'' e1 e2
        rw [← Nat.pow_add, ← HN.out] at e3
        have h1 : ((10 ^ N : Nat) : Int) = (10 : Int) ^ N := by rw [Int.natCast_pow]; rfl
        rw [← h1]; omega
      have hlow := hf.out.low
      have htop : ∀ j, f j ≤ 90000000000 := fun j => by have := hf.out.top j; omega
      have hNp : 0 < N := by have := Lib.nDigits_pos x; have := ha.size; have := HN.out; omega
      have HVal := Lib.hid hval; have HXY := Lib.hid hxy; have Hlow := Lib.hid hlow; have Htop := Lib.hid htop
      clear hval hxy hlow htop hii hf
      go_wp2_with fail
      have hr3 : (wr.alloc (.cells (madeCells #[.int .u8 0] N) 5)).rowIs wr.heap.size 5 N (rowF [] N) := (World.rowIs_made wr _ N _).congr (fun j hj => (if_pos hj).symm)
      have hB3 : Below bc w (wr.alloc (.cells (madeCells #[.int .u8 0] N) 5)) := hbr.alloc (by have := hrf.lt; omega) _
      have hrf3 : (wr.alloc (.cells (madeCells #[.int .u8 0] N) 5)).rowIs bc 3 N (fun j => .int .i64 (f j)) := hrf.alloc _
      have hbo : bc < wr.heap.size := hrf.lt
      generalize wr.alloc (.cells (madeCells #[.int .u8 0] N) 5) = W3 at *
      generalize wr.heap.size = bo at *
      go_loopw [9, 10] (fun cv q wr => ∃ (k : Nat) (cc : Int) (L : Bytes), k ≤ N ∧ cv = .int .i64 cc ∧ q = .int .i64 ((k : Int) - 1) ∧ 0 ≤ cc ∧ cc ≤ 90000000000 ∧ Hid (Carried10 f N k L cc) ∧ wr.rowIs bo 5 N (rowF L k) ∧ wr.rowIs bc 3 N (fun j => .int .i64 (f j)) ∧ Below bc w wr) (fun _ q _ => (intOf q + 1).toNat)
      case atStart => exact ⟨N, 0, [], Nat.le_refl _, rfl, rfl, by omega, by omega, ⟨rfl, rfl, by rw [dval_nil]; simp⟩, hr3, hrf3, hB3⟩
      case round =>
        obtain ⟨k, cc, L, hk, rfl, rfl, c0, c1, hL, hro, hrc, hbk⟩ := hrel
        cases k with
        | zero =>
          have hv := carried10_end hL.out HVal.out HXY.out c0
          have hLl : L.length = N := by have := hL.out.2.1; omega
          have hcv := conv_row wr bo N L (hro.congr (fun j _ => by unfold rowF; rw [if_neg (by omega)]; rfl)) hLl
          have HV := Lib.hid hv; have HL := Lib.hid hLl; clear hv hLl
          go_wp2_with fail
          refine (ref_bare ⟨L.toArray⟩ _ (by rw [← toList_length, toList_lit, HL.out]; omega) (by rw [toList_lit]; exact hL.out.1) (by rw [← toList_length, toList_lit, HL.out]; omega)).mono ?_
          rintro e w5 ⟨q, hq, rfl, rfl⟩
          go_wp2_with fail
          go_ret
          rw [toList_lit] at hq
          have hv2 : dval L = x * y := by have := HV.out; omega
          rw [hv2] at hq
          exact ⟨q, hq, rfl, by rw [← Hbc.out]; exact hbk⟩
        | succ k =>
          have f0 := Hlow.out k
          have f1 := Htop.out k
          have ck := hrc.cell (i := k) (by omega)
          have co := hro.cell (i := k) (by omega)
          have fo := hro.frozen k
          obtain ⟨v, hv⟩ : ∃ v, v = f k := ⟨_, rfl⟩
          rw [← hv] at ck f0 f1
          have Hv := Lib.hid hv; clear hv
          rw [show rowF L (k + 1) k = .int .u8 0 from if_pos (by omega)] at co
          have htm : (cc + v).tmod 10 = (cc + v) % 10 := Int.tmod_eq_emod_of_nonneg (by omega)
          have htd : (cc + v).tdiv 10 = (cc + v) / 10 := Int.tdiv_eq_ediv_of_nonneg (by omega)
          have r0 : 0 ≤ (cc + v) % 10 := by omega
          have r1 : (cc + v) % 10 < 10 := by omega
          have q0 : 0 ≤ (cc + v) / 10 := by omega
          have q1 : (cc + v) / 10 ≤ 90000000000 := by omega
          have hst := fun (u : UInt8) (hu : (u.toNat : Int) = 48 + (cc + f k) % 10) => carried10_step hL.out u (by rw [← Hv.out]; omega) hu
          rw [← Hv.out] at hst
          have Hst := Lib.hid hst; clear hst
          have hu : ∃ u : UInt8, Hid ((u.toNat : Int) = 48 + (cc + v) % 10) := ⟨UInt8.ofNat (48 + (cc + v) % 10).toNat, by show _ = _; rw [UInt8.toNat_ofNat']; omega⟩
          obtain ⟨u, hu⟩ := hu
          generalize hrr : (cc + v) % 10 = r at *
          generalize hqq : (cc + v) / 10 = q at *
          have Hrr := Lib.hid hrr; have Hqq := Lib.hid hqq; clear hrr hqq
          have hkN : (k : Int) < N := by omega
          go_wp2_with fail
          refine ⟨⟨k, q, u :: L, by omega, rfl, rfl, q0, q1, ?_, rowF_step hro u _ hu.out, hrc.setOther (a := ⟨bo, k, none⟩) (by show bc ≠ bo; omega) _, hbk.setCell (p := ⟨bo, k, none⟩) (by show bc ≤ bo; omega) _⟩, by simp [intOf]⟩
          exact Hst.out u hu.out

end Go.Proofs.YtgkiaonakiflbaaGreatDoor

/- The contract of metrolabref01's divided. -/
namespace Go.Proofs.YtgkiaonakiflbaaGreatDoor
open Go.RowKit

theorem one_byte (a : ByteArray) (k : Nat) (h : k < a.size) : (a.extract k (k + 1)).toList = [a[k]] := by
  rw [toList_extract, List.take_add_one, byte_at a k h, List.drop_append_of_le_length (by rw [List.length_take, toList_length]; omega)]
  rw [List.drop_of_length_le (by rw [List.length_take]; omega)]; rfl

/-- The quotient's digits and the rest behind some digits. -/
structure Dvd (A : Bytes) (y i : Nat) (Q : Bytes) (R : Nat) : Prop where
  dig : Q.all isDig = true
  len : Q.length = i
  val : dval (A.take i) = dval Q * y + R
  lt : R < y

theorem Dvd.step {A Q : Bytes} {a : ByteArray} {y i R dd R' : Nat} (ha : a.toList = A) (hi : i < a.size) (h : Dvd A y i Q R) (hA : A.all isDig = true) (u : UInt8) (hu : u.toNat = 48 + dd) (hdd : dd ≤ 9) (he : 10 * R + (a[i].toNat - 48) = dd * y + R') (hR : R' < y) : Dvd A y (i + 1) (Q ++ [u]) R' := by
  have hd := dig_at (s := a) (by rw [ha]; exact hA) i hi
  have ht : A.take (i + 1) = A.take i ++ [a[i]] := by rw [List.take_add_one, ← ha, byte_at a i hi]; rfl
  refine ⟨?_, by rw [List.length_append, h.len]; rfl, ?_, hR⟩
  · rw [List.all_append, h.dig, List.all_cons, List.all_nil, Bool.and_true, Bool.true_and, isDig_iff]; omega
  · rw [ht, dval_snoc, dval_snoc, h.val, digv_eq, digv_eq, hu, Nat.add_sub_cancel_left, Nat.add_mul, Nat.mul_add, Nat.mul_assoc]
    omega

theorem snoc_val {c : ByteArray} {R : Nat} (hc : IsM c R) (t : ByteArray) (x : UInt8) (ht : t.toList = [x]) : dval (c ++ t).toList = 10 * R + (x.toNat - 48) := by
  rw [toList_append, ht, dval_snoc, hc.out, dval_decDigits, digv_eq]
theorem snoc_all {c : ByteArray} {R : Nat} (hc : IsM c R) (t : ByteArray) (x : UInt8) (ht : t.toList = [x]) (hx : isDig x = true) : (c ++ t).toList.all isDig = true := by
  rw [toList_append, ht, List.all_append, hc.all, List.all_cons, hx]; rfl
theorem snoc_size {c t : ByteArray} {x : UInt8} (ht : t.toList = [x]) : (c ++ t).size = c.size + 1 := by
  rw [← toList_length, toList_append, ht, List.length_append, toList_length]; rfl
theorem conv_byte' (w : World) (_b : Nat) (u : UInt8) (v : Int) (h : (u.toNat : Int) = v) (T : TypeId) : (convert 131 9 (.slice (some ⟨w.heap.size, 0, none⟩) 1 1)).run Tryz.prog (w.alloc (.cells #[.int .u8 v] T)) = .ok (.string ⟨#[u]⟩) (w.alloc (.cells #[.int .u8 v] T)) :=
  conv_byte _ _ _ (by rw [h]; exact cell_of_row _ _ 0 _ _ _ (heap_alloc_new w _))

set_option maxRecDepth 100000 in
set_option maxHeartbeats 2000000 in
theorem ref_divided (a b : ByteArray) (x y : Nat) (w : World) (ha : IsM a x) (hb : IsM b y) (hy : 0 < y) (h1 : a.size ≤ 1073741824) (h2 : b.size ≤ 1000000000) :
    Calls Tryz.prog 149 #[.string a, .string b] w fun e w' => ∃ c d, IsM c (x / y) ∧ IsM d (x % y) ∧ e = .returned (.tuple #[.string c, .string d]) ∧ Below w.heap.size w w' := by
  have hA : Hid (a.toList.all isDig = true) := ha.all
  have sb := hb.size
  have hRs : ∀ (c : ByteArray) (R : Nat), IsM c R → R < y → c.size ≤ b.size := fun c R hc hR => by rw [hc.size, sb]; exact nDigits_mono (by omega)
  have hRs2 : ∀ (c : ByteArray) (R : Nat), IsM c R → R < 10 * y → c.size ≤ b.size + 1 := fun c R hc hR => by
    rw [hc.size, sb]
    refine nDigits_le_of_lt _ _ (by omega) ?_
    have := Lib.lt_pow_nDigits y
    rw [Nat.pow_succ]; omega
  have HRs := Lib.hid hRs; have HRs2 := Lib.hid hRs2; clear hRs hRs2 sb
  have a1 : (a.size : Int) ≤ 1073741824 := by omega
  go_enter Tryz.func149, Tryz.ntmps149
  go_wp2_with fail
  go_loopw [6, 7, 8] (fun qv rv iv wr => ∃ (i R : Nat) (q c : ByteArray), i ≤ a.size ∧ qv = .string q ∧ rv = .string c ∧ iv = .int .i64 (i : Int) ∧ IsM c R ∧ Hid (Dvd a.toList y i q.toList R) ∧ Below w.heap.size w wr) (fun _ _ iv _ => a.size - (intOf iv).toNat)
  case atStart => exact ⟨0, 0, ⟨#[]⟩, ⟨#[48]⟩, Nat.zero_le _, rfl, rfl, rfl, by unfold IsM Is; rw [show (⟨#[48]⟩ : ByteArray).toList = [48] from toList_lit [48], decDigits_zero], ⟨by rw [toList_lit []]; rfl, by rw [toList_lit []]; rfl, by rw [List.take_zero, dval_nil, toList_lit [], dval_nil, Nat.zero_mul], hy⟩, Below.refl _ _⟩
  case round =>
    obtain ⟨i, R, q, c, hi, rfl, rfl, rfl, hc, hdv, hbr⟩ := hrel
    have hqs : q.size = i := by rw [← toList_length]; exact hdv.out.len
    have hcs := HRs.out c R hc hdv.out.lt
    have q1 : (q.size : Int) ≤ 1073741824 := by omega
    have HQS := Lib.hid hqs; clear hqs
    by_cases hlt : i < a.size
    · obtain ⟨da0, da1⟩ := dig_at hA.out i hlt
      have hia : (i : Int) < a.size := by omega
      have hob := one_byte a i hlt
      have hsz := snoc_size (c := c) hob
      have hval := snoc_val hc (a.extract i (i + 1)) _ hob
      have hall := snoc_all hc (a.extract i (i + 1)) _ hob (by rw [isDig_iff]; omega)
      have hes : (a.extract i (i + 1)).size = 1 := by rw [← toList_length, hob]; rfl
      have HSZ := Lib.hid hsz; have HVal := Lib.hid hval; have HAll := Lib.hid hall; have HOB := Lib.hid hob; have HES := Lib.hid hes
      clear hsz hval hall hob hes
      go_wp2_with fail
      refine (ref_bare (c ++ a.extract i (i + 1)) _ (by rw [HSZ.out]; omega) HAll.out (by rw [HSZ.out]; omega)).mono ?_
      rintro e w2 ⟨r0, hr0, rfl, rfl⟩
      rw [HVal.out] at hr0
      obtain ⟨M, hM⟩ : ∃ M, M = 10 * R + (a[i].toNat - 48) := ⟨_, rfl⟩
      rw [← hM] at hr0
      have hM10 : M < 10 * y := by have := hdv.out.lt; omega
      have HM := Lib.hid hM; clear hM HVal HAll HSZ HOB HES
      go_wp2_with fail
      go_loopw [7, 9] (fun rv gv wr => ∃ (g : Int) (dd R' : Nat) (r : ByteArray), rv = .string r ∧ gv = .int .u8 g ∧ Hid (g = 48 + (dd : Int)) ∧ IsM r R' ∧ Hid (M = dd * y + R') ∧ Below w.heap.size w wr) (fun _ gv _ => (100 - intOf gv).toNat)
      case atStart => exact ⟨48, 0, M, r0, rfl, rfl, rfl, hr0, by show _ = _; omega, hbr⟩
      case round =>
        obtain ⟨g, dd, R', r, rfl, rfl, hg, hr, heq, hbi⟩ := hrel
        have hR10 : R' < 10 * y := by have := heq.out; omega
        have hrs := HRs2.out r R' hr hR10
        have hdd : dd < 10 := by
          have h3 : dd * y < 10 * y := by have := heq.out; omega
          exact Nat.lt_of_mul_lt_mul_right h3
        have g0 : 48 ≤ g := by have := hg.out; omega
        have g1 : g ≤ 57 := by have := hg.out; omega
        by_cases hge : y ≤ R'
        · have t1 : decide (R' < y) = false := by simp; omega
          have hdd9 : dd < 9 := by
            have h3 : dd * y + y < 10 * y := by have := heq.out; omega
            rw [← Nat.succ_mul] at h3
            have := Nat.lt_of_mul_lt_mul_right h3
            omega
          have g2 : g ≤ 56 := by have := hg.out; omega
          have heq2 : M = (dd + 1) * y + (R' - y) := by have := heq.out; rw [Nat.add_mul]; omega
          have HE2 := Lib.hid heq2; clear heq2
          have hg2 : g + 1 = 48 + ((dd + 1 : Nat) : Int) := by have := hg.out; omega
          have HG2 := Lib.hid hg2; clear hg2 hdd hdd9
          have Hge := Lib.hid hge; clear hge
          go_wp2_with fail
          refine (ref_less r b R' y _ hr hb (by omega) (by omega)).mono ?_
          rintro e w3 ⟨rfl, rfl⟩
          go_wp2_with fail
          refine (ref_paper r b R' y false _ hr hb (by omega) (by omega) (fun _ => Hge.out)).mono ?_
          rintro e w3 ⟨r2, hr2, rfl, hb3⟩
          go_wp2_with fail
          go_roundw
          case rel => exact ⟨g + 1, dd + 1, R' - y, r2, rfl, rfl, HG2.out, hr2, HE2.out, hbi.trans (hb3.mono hbi.size)⟩
          case measure => simp only [intOf]; omega
        · have t1 : decide (R' < y) = true := by simp; omega
          have hlt2 : R' < y := by omega
          have hu : ∃ u : UInt8, u.toNat = 48 + dd := ⟨UInt8.ofNat (48 + dd), by rw [UInt8.toNat_ofNat']; omega⟩
          obtain ⟨u, hu⟩ := hu
          have hst := hdv.out.step rfl hlt hA.out u hu (by omega) (by rw [← HM.out]; exact heq.out) hlt2
          have hcv := conv_byte' wr b.size u g (by have := hg.out; omega) 5
          have HST := Lib.hid hst; have HL2 := Lib.hid hlt2; clear hst hlt2 hge hu hdd
          go_wp2_with fail
          refine (ref_less r b R' y _ hr hb (by omega) (by omega)).mono ?_
          rintro e w3 ⟨rfl, rfl⟩
          go_wp2_with fail
          go_roundw
          case rel =>
            refine ⟨i + 1, R', _, r, by omega, rfl, rfl, by go_num, hr, ?_, hbi.alloc hbi.size _⟩
            show Dvd _ _ _ _ _
            rw [toList_append, show (⟨#[u]⟩ : ByteArray).toList = [u] from toList_lit _]
            exact HST.out
          case measure => simp only [intOf]; omega
    · have hia : i = a.size := by omega
      have hfin := hdv.out.val
      rw [hia, List.take_of_length_le (by rw [toList_length]; exact Nat.le_refl _), ha.out, dval_decDigits] at hfin
      have hlt2 := hdv.out.lt
      have e1 : x / y = dval q.toList := by rw [hfin, Nat.add_comm, Nat.add_mul_div_right _ _ hy, Nat.div_eq_of_lt hlt2, Nat.zero_add]
      have e2 : x % y = R := by rw [hfin, Nat.add_comm, Nat.add_mul_mod_self_right, Nat.mod_eq_of_lt hlt2]
      have hpos : 0 < a.size := by rw [ha.size]; exact Lib.nDigits_pos x
      have hqp : 0 < q.size := by rw [HQS.out]; omega
      have E1 := Lib.hid e1; have E2 := Lib.hid e2; clear e1 e2 hfin hia hlt2
      go_wp2_with fail
      refine (ref_bare q _ (by omega) hdv.out.dig hqp).mono ?_
      rintro e w2 ⟨r0, hr0, rfl, rfl⟩
      go_wp2_with fail
      go_ret2
      exact ⟨r0, c, by rw [E1.out]; exact hr0, by rw [E2.out]; exact hc, rfl, hbr⟩

end Go.Proofs.YtgkiaonakiflbaaGreatDoor

/- The contracts of metrolabref01's Plus, Minus, Times, Order. -/
namespace Go.Proofs.YtgkiaonakiflbaaGreatDoor
open Go.RowKit

theorem nDigits_add (m n : Nat) : Lib.nDigits (m + n) ≤ max (Lib.nDigits m) (Lib.nDigits n) + 1 := by
  refine nDigits_le_of_lt _ _ (by omega) ?_
  have h1 := Lib.lt_pow_nDigits m
  have h2 := Lib.lt_pow_nDigits n
  have h3 : (10 : Nat) ^ Lib.nDigits m ≤ 10 ^ max (Lib.nDigits m) (Lib.nDigits n) := Nat.pow_le_pow_right (by omega) (by omega)
  have h4 : (10 : Nat) ^ Lib.nDigits n ≤ 10 ^ max (Lib.nDigits m) (Lib.nDigits n) := Nat.pow_le_pow_right (by omega) (by omega)
  rw [Nat.pow_succ]; omega
theorem nDigits_mul (m n : Nat) : Lib.nDigits (m * n) ≤ Lib.nDigits m + Lib.nDigits n := by
  have h5 := Lib.nDigits_pos m
  refine nDigits_le_of_lt _ _ (by omega) ?_
  have h1 := Lib.lt_pow_nDigits m
  have h2 := Lib.lt_pow_nDigits n
  rw [Nat.pow_add]
  exact Nat.mul_lt_mul'' h1 h2
theorem wid_add (x y : Int) : wid (x + y) ≤ max (wid x) (wid y) + 1 := by
  refine Nat.le_trans (nDigits_mono (n := x.natAbs + y.natAbs) (by omega)) (nDigits_add _ _)
theorem wid_neg (x : Int) : wid (-x) = wid x := by unfold wid; rw [Int.natAbs_neg]
theorem wid_sub (x y : Int) : wid (x - y) ≤ max (wid x) (wid y) + 1 := by
  have := wid_add x (-y); rw [wid_neg] at this; rw [Int.sub_eq_add_neg]; exact this
theorem wid_mul (x y : Int) : wid (x * y) ≤ wid x + wid y := by
  unfold wid; rw [Int.natAbs_mul]; exact nDigits_mul _ _

theorem sval_plus_same {x y : Int} (h : (decide (x < 0) == decide (y < 0)) = true) : sval (decide (x < 0)) ((papV true x.natAbs y.natAbs : Nat) : Int) = x + y := by
  unfold papV
  rw [beq_iff_eq, decide_eq_decide] at h
  by_cases hx : x < 0
  · rw [decide_eq_true hx]; show -((x.natAbs + y.natAbs : Nat) : Int) = _; omega
  · rw [decide_eq_false hx]; show ((x.natAbs + y.natAbs : Nat) : Int) = _; omega
theorem sval_plus_less {x y : Int} (h : (decide (x < 0) == decide (y < 0)) = false) (hl : x.natAbs < y.natAbs) : sval (decide (y < 0)) ((papV false y.natAbs x.natAbs : Nat) : Int) = x + y := by
  unfold papV
  rw [beq_eq_false_iff_ne, ne_eq, decide_eq_decide] at h
  by_cases hx : y < 0
  · rw [decide_eq_true hx]; show -((y.natAbs - x.natAbs : Nat) : Int) = _; omega
  · rw [decide_eq_false hx]; show ((y.natAbs - x.natAbs : Nat) : Int) = _; omega
theorem sval_plus_ge {x y : Int} (h : (decide (x < 0) == decide (y < 0)) = false) (hl : ¬ x.natAbs < y.natAbs) : sval (decide (x < 0)) ((papV false x.natAbs y.natAbs : Nat) : Int) = x + y := by
  unfold papV
  rw [beq_eq_false_iff_ne, ne_eq, decide_eq_decide] at h
  by_cases hx : x < 0
  · rw [decide_eq_true hx]; show -((x.natAbs - y.natAbs : Nat) : Int) = _; omega
  · rw [decide_eq_false hx]; show ((x.natAbs - y.natAbs : Nat) : Int) = _; omega

theorem papV_size {c : ByteArray} {add : Bool} {m n : Nat} (h : IsM c (papV add m n)) (hm : Lib.nDigits m ≤ 100000000) (hn : Lib.nDigits n ≤ 100000000) : c.size ≤ 140737488351232 := by
  rw [h.size]
  have h1 := nDigits_add m n
  unfold papV
  split
  · omega
  · have := nDigits_mono (show m - n ≤ m by omega); omega

set_option maxRecDepth 100000 in
set_option maxHeartbeats 2000000 in
theorem ref_Plus (a b : ByteArray) (x y : Int) (w : World) (ha : IsI a x) (hb : IsI b y) (hx : wid x ≤ 100000000) (hy : wid y ≤ 100000000) :
    Calls Tryz.prog 72 #[.string a, .string b] w (NewText (x + y) w) := by
  have sa := ha.size_le
  have sb := hb.size_le
  by_cases hs : wid x ≤ 18 ∧ wid y ≤ 18
  · have n1 := number_bound hs.1
    have n2 := number_bound hs.2
    go_enter Tryz.func72, Tryz.ntmps72
    go_wp2_with fail
    refine (brief_yes a b x y _ ha hb hs.1 hs.2).mono ?_
    rintro e w' ⟨rfl, rfl⟩
    go_wp2_with fail
    refine (ref_Of (x + y) _ (by omega) (by omega)).mono ?_
    rintro e w2 ⟨c, hc, rfl, hb2⟩
    go_wp2_with fail
    go_ret
    exact ⟨c, hc, rfl, hb2⟩
  · have sa' : a.size ≤ 140737488351232 := by omega
    have sb' : b.size ≤ 140737488351232 := by omega
    have Hs : Hid (18 < wid x ∨ 18 < wid y) := by show _ ∨ _; omega
    have wx : x.natAbs = x.natAbs := rfl
    clear hs sa sb
    have start : ∀ (P : Value → World → Prop), True := fun _ => trivial
    by_cases hsg : (decide (x < 0) == decide (y < 0)) = true
    · go_enter Tryz.func72, Tryz.ntmps72
      go_wp2_with fail
      refine (brief_no a b x y _ ha hb Hs.out sa' sb').mono ?_
      rintro e w' ⟨rfl, rfl⟩
      go_wp2_with fail
      refine (ref_sizeI a x _ ha sa').mono ?_
      rintro e w' ⟨d1, hd1, hs1, rfl, rfl⟩
      have z1 : d1.size ≤ 1073741824 := by omega
      clear hs1
      go_wp2_with fail
      refine (ref_sizeI b y _ hb sb').mono ?_
      rintro e w' ⟨d2, hd2, hs2, rfl, rfl⟩
      have z2 : d2.size ≤ 1073741824 := by omega
      clear hs2
      go_wp2_with fail
      refine (ref_Below a x _ ha).mono ?_
      rintro e w' ⟨rfl, rfl⟩
      go_wp2_with fail
      refine (ref_Below b y _ hb).mono ?_
      rintro e w' ⟨rfl, rfl⟩
      go_wp2_with fail
      refine (ref_paper d1 d2 _ _ true _ hd1 hd2 z1 z2 (fun h => by cases h)).mono ?_
      rintro e w2 ⟨c, hc, rfl, hb2⟩
      go_wp2_with fail
      refine (ref_Below a x _ ha).mono ?_
      rintro e w' ⟨rfl, rfl⟩
      go_wp2_with fail
      refine (ref_signed c _ (decide (x < 0)) _ hc (papV_size hc hx hy)).mono ?_
      rintro e w' ⟨d, hd, rfl, rfl⟩
      go_wp2_with fail
      go_ret
      exact ⟨d, hd.cast (sval_plus_same hsg), rfl, hb2⟩
    · replace hsg : (decide (x < 0) == decide (y < 0)) = false := by simpa using hsg
      by_cases hl : x.natAbs < y.natAbs
      · have t1 : decide (x.natAbs < y.natAbs) = true := decide_eq_true hl
        have Hl := Lib.hid hl; clear hl
        go_enter Tryz.func72, Tryz.ntmps72
        go_wp2_with fail
        refine (brief_no a b x y _ ha hb Hs.out sa' sb').mono ?_
        rintro e w' ⟨rfl, rfl⟩
        go_wp2_with fail
        refine (ref_sizeI a x _ ha sa').mono ?_
        rintro e w' ⟨d1, hd1, hs1, rfl, rfl⟩
        have z1 : d1.size ≤ 1073741824 := by omega
        clear hs1
        go_wp2_with fail
        refine (ref_sizeI b y _ hb sb').mono ?_
        rintro e w' ⟨d2, hd2, hs2, rfl, rfl⟩
        have z2 : d2.size ≤ 1073741824 := by omega
        clear hs2
        go_wp2_with fail
        refine (ref_Below a x _ ha).mono ?_
        rintro e w' ⟨rfl, rfl⟩
        go_wp2_with fail
        refine (ref_Below b y _ hb).mono ?_
        rintro e w' ⟨rfl, rfl⟩
        go_wp2_with fail
        refine (ref_less d1 d2 _ _ _ hd1 hd2 (by omega) (by omega)).mono ?_
        rintro e w' ⟨rfl, rfl⟩
        go_wp2_with fail
        refine (ref_paper d2 d1 _ _ false _ hd2 hd1 z2 z1 (fun _ => Nat.le_of_lt Hl.out)).mono ?_
        rintro e w2 ⟨c, hc, rfl, hb2⟩
        go_wp2_with fail
        refine (ref_Below b y _ hb).mono ?_
        rintro e w' ⟨rfl, rfl⟩
        go_wp2_with fail
        refine (ref_signed c _ (decide (y < 0)) _ hc (papV_size hc hy hx)).mono ?_
        rintro e w' ⟨d, hd, rfl, rfl⟩
        go_wp2_with fail
        go_ret
        exact ⟨d, hd.cast (sval_plus_less hsg Hl.out), rfl, hb2⟩
      · have t1 : decide (x.natAbs < y.natAbs) = false := decide_eq_false hl
        have Hl := Lib.hid hl; clear hl
        go_enter Tryz.func72, Tryz.ntmps72
        go_wp2_with fail
        refine (brief_no a b x y _ ha hb Hs.out sa' sb').mono ?_
        rintro e w' ⟨rfl, rfl⟩
        go_wp2_with fail
        refine (ref_sizeI a x _ ha sa').mono ?_
        rintro e w' ⟨d1, hd1, hs1, rfl, rfl⟩
        have z1 : d1.size ≤ 1073741824 := by omega
        clear hs1
        go_wp2_with fail
        refine (ref_sizeI b y _ hb sb').mono ?_
        rintro e w' ⟨d2, hd2, hs2, rfl, rfl⟩
        have z2 : d2.size ≤ 1073741824 := by omega
        clear hs2
        go_wp2_with fail
        refine (ref_Below a x _ ha).mono ?_
        rintro e w' ⟨rfl, rfl⟩
        go_wp2_with fail
        refine (ref_Below b y _ hb).mono ?_
        rintro e w' ⟨rfl, rfl⟩
        go_wp2_with fail
        refine (ref_less d1 d2 _ _ _ hd1 hd2 (by omega) (by omega)).mono ?_
        rintro e w' ⟨rfl, rfl⟩
        go_wp2_with fail
        refine (ref_paper d1 d2 _ _ false _ hd1 hd2 z1 z2 (fun _ => Nat.not_lt.1 Hl.out)).mono ?_
        rintro e w2 ⟨c, hc, rfl, hb2⟩
        go_wp2_with fail
        refine (ref_Below a x _ ha).mono ?_
        rintro e w' ⟨rfl, rfl⟩
        go_wp2_with fail
        refine (ref_signed c _ (decide (x < 0)) _ hc (papV_size hc hx hy)).mono ?_
        rintro e w' ⟨d, hd, rfl, rfl⟩
        go_wp2_with fail
        go_ret
        exact ⟨d, hd.cast (sval_plus_ge hsg Hl.out), rfl, hb2⟩

theorem ref_Minus (a b : ByteArray) (x y : Int) (w : World) (ha : IsI a x) (hb : IsI b y) (hx : wid x ≤ 100000000) (hy : wid y ≤ 100000000) :
    Calls Tryz.prog 75 #[.string a, .string b] w (NewText (x - y) w) := by
  have sb := hb.size_le
  have sb' : b.size ≤ 140737488351232 := by omega
  clear sb
  go_enter Tryz.func75, Tryz.ntmps75
  go_wp2_with fail
  refine (ref_Turned b y _ hb sb').mono ?_
  rintro e w' ⟨d, hd, rfl, rfl⟩
  go_wp2_with fail
  refine (ref_Plus a d x (-y) _ ha hd hx (by rw [wid_neg]; exact hy)).mono ?_
  rintro e w2 ⟨c, hc, rfl, hb2⟩
  go_wp2_with fail
  go_ret
  exact ⟨c, hc.cast (by omega), rfl, hb2⟩

theorem ref_Order (a b : ByteArray) (x y : Int) (w : World) (ha : IsI a x) (hb : IsI b y) (hx : wid x ≤ 100000000) (hy : wid y ≤ 100000000) :
    Calls Tryz.prog 87 #[.string a, .string b] w fun e w' => e = .returned (.int .i64 (cmpZ x y)) ∧ Below w.heap.size w w' := by
  rcases Int.lt_trichotomy x y with h | h | h
  · have e1 : cmpZ x y = -1 := by unfold cmpZ; rw [if_pos h]
    have t2 : decide (x - y < 0) = true := by simp; omega
    have hne : x - y ≠ 0 := by omega
    go_enter Tryz.func87, Tryz.ntmps87
    go_wp2_with fail
    refine (ref_Minus a b x y _ ha hb hx hy).mono ?_
    rintro e w2 ⟨c, hc, rfl, hb2⟩
    have g := hc.not_zero hne
    go_wp2_with fail
    refine (ref_Below c _ _ hc).mono ?_
    rintro e w' ⟨rfl, rfl⟩
    go_wp2_with fail
    go_ret
    exact ⟨ret_int e1.symm, hb2⟩
  · have e1 : cmpZ x y = 0 := by unfold cmpZ; rw [if_neg (by omega), if_neg (by omega)]
    have hne : Hid (x - y = 0) := show _ = _ by omega
    go_enter Tryz.func87, Tryz.ntmps87
    go_wp2_with fail
    refine (ref_Minus a b x y _ ha hb hx hy).mono ?_
    rintro e w2 ⟨c, hc, rfl, hb2⟩
    have g := hc.is_zero hne.out
    go_wp2_with fail
    go_ret
    exact ⟨ret_int e1.symm, hb2⟩
  · have e1 : cmpZ x y = 1 := by unfold cmpZ; rw [if_neg (by omega), if_pos h]
    have t2 : decide (x - y < 0) = false := by simp; omega
    have hne : x - y ≠ 0 := by omega
    go_enter Tryz.func87, Tryz.ntmps87
    go_wp2_with fail
    refine (ref_Minus a b x y _ ha hb hx hy).mono ?_
    rintro e w2 ⟨c, hc, rfl, hb2⟩
    have g := hc.not_zero hne
    go_wp2_with fail
    refine (ref_Below c _ _ hc).mono ?_
    rintro e w' ⟨rfl, rfl⟩
    go_wp2_with fail
    go_ret
    exact ⟨ret_int e1.symm, hb2⟩

theorem sval_times (x y : Int) : sval (!(decide (x < 0) == decide (y < 0))) ((x.natAbs * y.natAbs : Nat) : Int) = x * y := by
  have h := sval_mul (decide (x < 0)) (decide (y < 0)) x.natAbs y.natAbs
  rw [sval_abs, sval_abs] at h
  rw [← h]; rfl

end Go.Proofs.YtgkiaonakiflbaaGreatDoor

/- The contracts of metrolabref01's Times, Parted, Shared. -/
namespace Go.Proofs.YtgkiaonakiflbaaGreatDoor
open Go.RowKit

theorem times_small {x y : Int} (h : wid x + wid y ≤ 18) : -1000000000000000000 < x * y ∧ x * y < 1000000000000000000 := by
  exact number_bound (Nat.le_trans (wid_mul x y) h)
theorem natmul_size {c : ByteArray} {m n : Nat} (h : IsM c (m * n)) (hm : Lib.nDigits m ≤ 100000000) (hn : Lib.nDigits n ≤ 100000000) : c.size ≤ 140737488351232 := by
  rw [h.size]; have := nDigits_mul m n; omega

set_option maxRecDepth 100000 in
set_option maxHeartbeats 2000000 in
theorem ref_Times (a b : ByteArray) (x y : Int) (w : World) (ha : IsI a x) (hb : IsI b y) (hx : wid x ≤ 100000000) (hy : wid y ≤ 100000000) :
    Calls Tryz.prog 112 #[.string a, .string b] w (NewText (x * y) w) := by
  have sa := ha.size_le
  have sb := hb.size_le
  have sa' : a.size ≤ 140737488351232 := by omega
  have sb' : b.size ≤ 140737488351232 := by omega
  by_cases hs : a.size + b.size ≤ 18
  · have h1 : wid x ≤ 18 := Nat.le_trans ha.wid_le (by omega)
    have h2 : wid y ≤ 18 := Nat.le_trans hb.wid_le (by omega)
    have n1 := times_small (x := x) (y := y) (by have := ha.wid_le; have := hb.wid_le; omega)
    have hs2 : (a.size : Int) + b.size ≤ 18 := by omega
    have n2 : -9223372036854775808 ≤ x * y := by omega
    have n3 : x * y ≤ 9223372036854775807 := by omega
    clear sa sb hs n1
    go_enter Tryz.func112, Tryz.ntmps112
    go_wp2_with fail
    refine (brief_yes a b x y _ ha hb h1 h2).mono ?_
    rintro e w' ⟨rfl, rfl⟩
    go_wp2_with fail
    refine (ref_Of (x * y) _ n2 n3).mono ?_
    rintro e w2 ⟨c, hc, rfl, hb2⟩
    go_wp2_with fail
    go_ret
    exact ⟨c, hc, rfl, hb2⟩
  · have hs2 : 18 < (a.size : Int) + b.size := by omega
    clear hs
    by_cases hb18 : wid x ≤ 18 ∧ wid y ≤ 18
    · clear sa sb
      go_enter Tryz.func112, Tryz.ntmps112
      go_wp2_with fail
      refine (brief_yes a b x y _ ha hb hb18.1 hb18.2).mono ?_
      rintro e w' ⟨rfl, rfl⟩
      go_wp2_with fail
      refine (ref_sizeI a x _ ha sa').mono ?_
      rintro e w' ⟨d1, hd1, hs1, rfl, rfl⟩
      have z1 : d1.size ≤ 1073741824 := by omega
      clear hs1
      go_wp2_with fail
      refine (ref_sizeI b y _ hb sb').mono ?_
      rintro e w' ⟨d2, hd2, hs2, rfl, rfl⟩
      have z2 : d2.size ≤ 1073741824 := by omega
      clear hs2
      go_wp2_with fail
      refine (ref_product d1 d2 _ _ _ hd1 hd2 z1 z2).mono ?_
      rintro e w2 ⟨c, hc, rfl, hb2⟩
      go_wp2_with fail
      refine (ref_Below a x _ ha).mono ?_
      rintro e w' ⟨rfl, rfl⟩
      go_wp2_with fail
      refine (ref_Below b y _ hb).mono ?_
      rintro e w' ⟨rfl, rfl⟩
      go_wp2_with fail
      refine (ref_signed c _ (!(decide (x < 0) == decide (y < 0))) _ hc (natmul_size hc hx hy)).mono ?_
      rintro e w' ⟨d, hd, rfl, rfl⟩
      go_wp2_with fail
      go_ret
      exact ⟨d, hd.cast (sval_times x y), rfl, hb2⟩
    · have Hs : Hid (18 < wid x ∨ 18 < wid y) := by show _ ∨ _; omega
      clear hb18 sa sb
      go_enter Tryz.func112, Tryz.ntmps112
      go_wp2_with fail
      refine (brief_no a b x y _ ha hb Hs.out sa' sb').mono ?_
      rintro e w' ⟨rfl, rfl⟩
      go_wp2_with fail
      refine (ref_sizeI a x _ ha sa').mono ?_
      rintro e w' ⟨d1, hd1, hs1, rfl, rfl⟩
      have z1 : d1.size ≤ 1073741824 := by omega
      clear hs1
      go_wp2_with fail
      refine (ref_sizeI b y _ hb sb').mono ?_
      rintro e w' ⟨d2, hd2, hs2, rfl, rfl⟩
      have z2 : d2.size ≤ 1073741824 := by omega
      clear hs2
      go_wp2_with fail
      refine (ref_product d1 d2 _ _ _ hd1 hd2 z1 z2).mono ?_
      rintro e w2 ⟨c, hc, rfl, hb2⟩
      go_wp2_with fail
      refine (ref_Below a x _ ha).mono ?_
      rintro e w' ⟨rfl, rfl⟩
      go_wp2_with fail
      refine (ref_Below b y _ hb).mono ?_
      rintro e w' ⟨rfl, rfl⟩
      go_wp2_with fail
      refine (ref_signed c _ (!(decide (x < 0) == decide (y < 0))) _ hc (natmul_size hc hx hy)).mono ?_
      rintro e w' ⟨d, hd, rfl, rfl⟩
      go_wp2_with fail
      go_ret
      exact ⟨d, hd.cast (sval_times x y), rfl, hb2⟩

/-- The quotient and the remainder, as texts. -/
def PartedR (x y : Int) (w : World) (e : Ending) (w' : World) : Prop :=
  ∃ c d, IsI c (x.fdiv y) ∧ IsI d (x.fmod y) ∧ e = .returned (.tuple #[.string c, .string d]) ∧ Below w.heap.size w w'

theorem parted_key {x y : Int} (hx : -1000000000000000000 < x ∧ x < 1000000000000000000) (hy : -1000000000000000000 < y ∧ y < 1000000000000000000) (h : y ≠ 0) :
    ∃ r R : Int, Hid (x.tmod y = r) ∧ -1000000000000000000 < r ∧ r < 1000000000000000000 ∧ -1000000000000000000 < R ∧ R < 1000000000000000000 ∧ -2000000000000000000 < x - R ∧ x - R < 2000000000000000000 ∧ Hid ((x - R).tdiv y = x.fdiv y) ∧ -1000000000000000001 < x.fdiv y ∧ x.fdiv y < 1000000000000000001 ∧ Hid (x.fmod y = R) ∧
      (((r != 0) = false ∧ R = r) ∨ ((r != 0) = true ∧ (decide (r < 0) == decide (y < 0)) = true ∧ R = r) ∨ ((r != 0) = true ∧ (decide (r < 0) == decide (y < 0)) = false ∧ R = r + y)) := by
  obtain ⟨h1, h2, h3, h4, h5⟩ := tquot x y h
  have hq := fdiv_wid (x := x) h
  have he : ∀ R, x.fmod y = R → (x - R).tdiv y = x.fdiv y := by
    intro R hR
    have := Int.mul_fdiv_add_fmod x y
    rw [hR] at this
    rw [show x - R = y * x.fdiv y by omega]
    exact Int.mul_tdiv_cancel_left _ h
  by_cases hr : x.tmod y = 0
  · have e := part_unique h1 (by omega)
    exact ⟨x.tmod y, x.tmod y, rfl, by omega, by omega, by omega, by omega, by omega, by omega, he _ e.2, by omega, by omega, e.2, .inl ⟨by simp [hr], rfl⟩⟩
  · by_cases hs : x.tmod y < 0 ↔ y < 0
    · have e := part_unique h1 (by omega)
      exact ⟨x.tmod y, x.tmod y, rfl, by omega, by omega, by omega, by omega, by omega, by omega, he _ e.2, by omega, by omega, e.2, .inr (.inl ⟨by simp [hr], by simp [hs], rfl⟩)⟩
    · have e := part_unique (x := x) (y := y) (q := x.tdiv y - 1) (r := x.tmod y + y) (by rw [Int.sub_mul]; omega) (by omega)
      exact ⟨x.tmod y, x.tmod y + y, rfl, by omega, by omega, by omega, by omega, by omega, by omega, he _ e.2, by omega, by omega, e.2, .inr (.inr ⟨by simp [hr], by rw [beq_eq_false_iff_ne, ne_eq, decide_eq_decide]; exact hs, rfl⟩)⟩

set_option maxRecDepth 100000 in
set_option maxHeartbeats 2000000 in
theorem ref_Parted_small (a b : ByteArray) (x y : Int) (w : World) (ha : IsI a x) (hb : IsI b y) (hy0 : y ≠ 0) (hx : wid x ≤ 18) (hy : wid y ≤ 18) :
    Calls Tryz.prog 123 #[.string a, .string b] w (PartedR x y w) := by
  obtain ⟨r, R, hr, r0, r1, R0, R1, s0, s1, hq, q0, q1, hR, key⟩ := parted_key (number_bound hx) (number_bound hy) hy0
  have hr' := hr.out
  have y0 : (y == 0) = false := by simp [hy0]
  have n1 := number_bound hx
  have n2 := number_bound hy
  have hq' := hq.out
  generalize hQ : x.fdiv y = q at *
  have HQ := Lib.hid hQ; clear hQ
  rcases key with ⟨t1, e1⟩ | ⟨t1, t2, e1⟩ | ⟨t1, t2, e1⟩
  all_goals
    subst e1
    go_enter Tryz.func123, Tryz.ntmps123
    go_wp2_with fail
    refine (brief_yes a b x y _ ha hb hx hy).mono ?_
    rintro e w' ⟨rfl, rfl⟩
    go_wp2_with fail
    refine (ref_Of q _ (by omega) (by omega)).mono ?_
    rintro e w2 ⟨c, hc, rfl, hb2⟩
    go_wp2_with fail
    refine Calls.mono (ref_Of _ _ (by omega) (by omega)) ?_
    rintro e w3 ⟨d, hd, rfl, hb3⟩
    go_wp2_with fail
    go_ret2
    exact ⟨c, d, hc.cast HQ.out.symm, hd.cast hR.out.symm, rfl, hb2.trans (hb3.mono hb2.size)⟩

theorem nat_parts (x y : Int) (_hy : y ≠ 0) : ((x.natAbs / y.natAbs : Nat) : Int) = (x.natAbs : Int) / y.natAbs ∧ ((x.natAbs % y.natAbs : Nat) : Int) = (x.natAbs : Int) % y.natAbs := ⟨rfl, rfl⟩

theorem fmod_wid {x y : Int} (hy : y ≠ 0) : (x.fmod y).natAbs ≤ y.natAbs := by
  rcases Int.lt_or_le 0 y with h0 | h0
  · have := Int.fmod_nonneg_of_pos x h0
    have := Int.fmod_lt_of_pos x h0
    omega
  · have h1 := Int.mul_fdiv_add_fmod x y
    obtain ⟨h3, h4, h5, h6, h7, h8⟩ := natAbs_parts x y hy
    by_cases hc : (x.natAbs : Int) % y.natAbs = 0 ∨ (decide (x < 0) == decide (y < 0)) = true
    · rw [(h7 hc).2]
      have := sval_natAbs (decide (x < 0)) h5
      omega
    · have hc1 : (x.natAbs : Int) % y.natAbs ≠ 0 := fun e => hc (.inl e)
      have hc2 : (decide (x < 0) == decide (y < 0)) = false := by rw [Bool.eq_false_iff]; exact fun e => hc (.inr e)
      rw [(h8 hc1 hc2).2]
      rw [beq_eq_false_iff_ne, ne_eq, decide_eq_decide] at hc2
      have hy0 : y < 0 := by omega
      have hx0 : ¬ x < 0 := fun h => hc2 ⟨fun _ => hy0, fun _ => h⟩
      rw [decide_eq_false hx0]
      show ((x.natAbs : Int) % y.natAbs + y).natAbs ≤ _
      omega

set_option maxRecDepth 100000 in
set_option maxHeartbeats 1000000 in
theorem ref_Parted_long (a b : ByteArray) (x y : Int) (w : World) (ha : IsI a x) (hb : IsI b y) (hy0 : y ≠ 0) (hx : wid x ≤ 10000000) (hy : wid y ≤ 10000000) (hs : ¬ (wid x ≤ 18 ∧ wid y ≤ 18)) :
    Calls Tryz.prog 123 #[.string a, .string b] w (PartedR x y w) := by
  have sa := ha.size_le
  have sb := hb.size_le
  have sa' : a.size ≤ 140737488351232 := by omega
  have sb' : b.size ≤ 140737488351232 := by omega
  have Hs : Hid (18 < wid x ∨ 18 < wid y) := by show _ ∨ _; omega
  obtain ⟨k1, k2, k3, k4, k5, k6⟩ := natAbs_parts x y hy0
  have wq : Hid (∀ q : Nat, (q : Int) = (x.natAbs : Int) / y.natAbs → Lib.nDigits q ≤ 10000000) := fun q hq => Nat.le_trans (nDigits_mono (n := x.natAbs) (by omega)) hx
  have wf : Hid (wid (x.fdiv y) ≤ 10000000) := Nat.le_trans (wid_mono (fdiv_wid hy0)) hx
  have wfy : Hid (wid (x.fdiv y * y) ≤ 100000000) := by
    have h1 := wid_mul (x.fdiv y) y
    have h2 := wf.out
    show _ ≤ _
    omega
  have hfm : Hid (x - x.fdiv y * y = x.fmod y) := by
    have h1 := Int.mul_fdiv_add_fmod x y
    show _ = _
    rw [Int.mul_comm]; omega
  have WF1 : Hid (wid (x.fdiv y) ≤ 100000000) := show _ ≤ _ by have := wf.out; omega
  have WY1 : Hid (wid y ≤ 100000000) := show _ ≤ _ by omega
  have WX1 : Hid (wid x ≤ 100000000) := show _ ≤ _ by omega
  clear hs sa sb
  obtain ⟨q, hq⟩ : ∃ q, q = x.natAbs / y.natAbs := ⟨_, rfl⟩
  obtain ⟨r, hr⟩ : ∃ r, r = x.natAbs % y.natAbs := ⟨_, rfl⟩
  have eq1 : (q : Int) = (x.natAbs : Int) / y.natAbs := by rw [hq]; rfl
  have er1 : (r : Int) = (x.natAbs : Int) % y.natAbs := by rw [hr]; rfl
  rw [← eq1] at k1 k2 k5 k6
  rw [← er1] at k3 k4 k5 k6
  have wq1 := wq.out q eq1
  have HQ := Lib.hid hq; have HR := Lib.hid hr; clear hq hr eq1 er1 k1 k3
  have hydef : 0 < y.natAbs := by omega
  by_cases hc : (r : Int) = 0 ∨ (decide (x < 0) == decide (y < 0)) = true
  · have E := Lib.hid (k5 hc); clear k5 k6
    have t3 : (decide (r = 0) = true) ∨ (decide (r = 0) = false ∧ (decide (x < 0) == decide (y < 0)) = true) := by
      rcases hc with h | h
      · left; simp; omega
      · by_cases h0 : r = 0
        · left; simp [h0]
        · right; exact ⟨by simp [h0], h⟩
    clear hc
    rcases t3 with t3 | ⟨t3, t4⟩
    ·
      go_enter Tryz.func123, Tryz.ntmps123
      go_wp2_with fail
      refine (brief_no a b x y _ ha hb Hs.out sa' sb').mono ?_
      rintro e w' ⟨rfl, rfl⟩
      go_wp2_with fail
      refine (ref_sizeI a x _ ha sa').mono ?_
      rintro e w' ⟨d1, hd1, hs1, rfl, rfl⟩
      have z1 : d1.size ≤ 1073741824 := by omega
      clear hs1
      go_wp2_with fail
      refine (ref_sizeI b y _ hb sb').mono ?_
      rintro e w' ⟨d2, hd2, hs2, rfl, rfl⟩
      have z2 : d2.size ≤ 1000000000 := by omega
      clear hs2
      go_wp2_with fail
      refine (ref_divided d1 d2 _ _ _ hd1 hd2 hydef z1 z2).mono ?_
      rintro e w2 ⟨c, d, hc, hd, rfl, hb2⟩
      rw [← HQ.out] at hc
      rw [← HR.out] at hd
      go_wp2_with fail
      refine (ref_Below a x _ ha).mono ?_
      rintro e w' ⟨rfl, rfl⟩
      go_wp2_with fail
      refine (ref_Below b y _ hb).mono ?_
      rintro e w' ⟨rfl, rfl⟩
      go_wp2_with fail
      refine (ref_signed c _ (!(decide (x < 0) == decide (y < 0))) _ hc (by rw [hc.size]; omega)).mono ?_
      rintro e w' ⟨o, ho, rfl, rfl⟩
      have g1 := hd.zero_iff
      rw [t3] at g1
      replace ho := ho.cast E.out.1.symm
      go_wp2_with fail
      refine (ref_Times o b (x.fdiv y) y _ ho hb WF1.out WY1.out).mono ?_
      rintro e w3 ⟨t, ht, rfl, hb3⟩
      go_wp2_with fail
      refine (ref_Minus a t x _ _ ha ht WX1.out wfy.out).mono ?_
      rintro e w4 ⟨m, hm, rfl, hb4⟩
      go_wp2_with fail
      go_ret2
      exact ⟨o, m, ho, hm.cast hfm.out, rfl, (hb2.trans (hb3.mono hb2.size)).trans (hb4.mono (Nat.le_trans hb2.size hb3.size))⟩
    · have T4 := Lib.hid t4; clear t4
      go_enter Tryz.func123, Tryz.ntmps123
      go_wp2_with fail
      refine (brief_no a b x y _ ha hb Hs.out sa' sb').mono ?_
      rintro e w' ⟨rfl, rfl⟩
      go_wp2_with fail
      refine (ref_sizeI a x _ ha sa').mono ?_
      rintro e w' ⟨d1, hd1, hs1, rfl, rfl⟩
      have z1 : d1.size ≤ 1073741824 := by omega
      clear hs1
      go_wp2_with fail
      refine (ref_sizeI b y _ hb sb').mono ?_
      rintro e w' ⟨d2, hd2, hs2, rfl, rfl⟩
      have z2 : d2.size ≤ 1000000000 := by omega
      clear hs2
      go_wp2_with fail
      refine (ref_divided d1 d2 _ _ _ hd1 hd2 hydef z1 z2).mono ?_
      rintro e w2 ⟨c, d, hc, hd, rfl, hb2⟩
      rw [← HQ.out] at hc
      rw [← HR.out] at hd
      go_wp2_with fail
      refine (ref_Below a x _ ha).mono ?_
      rintro e w' ⟨rfl, rfl⟩
      go_wp2_with fail
      refine (ref_Below b y _ hb).mono ?_
      rintro e w' ⟨rfl, rfl⟩
      go_wp2_with fail
      refine (ref_signed c _ (!(decide (x < 0) == decide (y < 0))) _ hc (by rw [hc.size]; omega)).mono ?_
      rintro e w' ⟨o, ho, rfl, rfl⟩
      have g1 := hd.zero_iff
      rw [t3] at g1
      replace ho := ho.cast E.out.1.symm
      have t4 := T4.out
      go_wp2_with fail
      refine (ref_Below a x _ ha).mono ?_
      rintro e w' ⟨rfl, rfl⟩
      go_wp2_with fail
      refine (ref_Below b y _ hb).mono ?_
      rintro e w' ⟨rfl, rfl⟩
      go_wp2_with fail
      refine (ref_Times o b (x.fdiv y) y _ ho hb WF1.out WY1.out).mono ?_
      rintro e w3 ⟨t, ht, rfl, hb3⟩
      go_wp2_with fail
      refine (ref_Minus a t x _ _ ha ht WX1.out wfy.out).mono ?_
      rintro e w4 ⟨m, hm, rfl, hb4⟩
      go_wp2_with fail
      go_ret2
      exact ⟨o, m, ho, hm.cast hfm.out, rfl, (hb2.trans (hb3.mono hb2.size)).trans (hb4.mono (Nat.le_trans hb2.size hb3.size))⟩
  · have hc1 : (r : Int) ≠ 0 := fun e => hc (.inl e)
    have hc2 : (decide (x < 0) == decide (y < 0)) = false := by rw [Bool.eq_false_iff]; exact fun e => hc (.inr e)
    have E := Lib.hid (k6 hc1 hc2)
    have t3 : decide (r = 0) = false := by simp; omega
    have T4 := Lib.hid hc2
    clear hc hc1 hc2 k5 k6
    go_enter Tryz.func123, Tryz.ntmps123
    go_wp2_with fail
    refine (brief_no a b x y _ ha hb Hs.out sa' sb').mono ?_
    rintro e w' ⟨rfl, rfl⟩
    go_wp2_with fail
    refine (ref_sizeI a x _ ha sa').mono ?_
    rintro e w' ⟨d1, hd1, hs1, rfl, rfl⟩
    have z1 : d1.size ≤ 1073741824 := by omega
    clear hs1
    go_wp2_with fail
    refine (ref_sizeI b y _ hb sb').mono ?_
    rintro e w' ⟨d2, hd2, hs2, rfl, rfl⟩
    have z2 : d2.size ≤ 1000000000 := by omega
    clear hs2
    go_wp2_with fail
    refine (ref_divided d1 d2 _ _ _ hd1 hd2 hydef z1 z2).mono ?_
    rintro e w2 ⟨c, d, hc, hd, rfl, hb2⟩
    rw [← HQ.out] at hc
    rw [← HR.out] at hd
    go_wp2_with fail
    refine (ref_Below a x _ ha).mono ?_
    rintro e w' ⟨rfl, rfl⟩
    go_wp2_with fail
    refine (ref_Below b y _ hb).mono ?_
    rintro e w' ⟨rfl, rfl⟩
    go_wp2_with fail
    refine (ref_signed c _ (!(decide (x < 0) == decide (y < 0))) _ hc (by rw [hc.size]; omega)).mono ?_
    rintro e w' ⟨o, ho, rfl, rfl⟩
    have g1 := hd.zero_iff
    rw [t3] at g1

    have t4 := T4.out
    go_wp2_with fail
    refine (ref_Below a x _ ha).mono ?_
    rintro e w' ⟨rfl, rfl⟩
    go_wp2_with fail
    refine (ref_Below b y _ hb).mono ?_
    rintro e w' ⟨rfl, rfl⟩
    have hone : IsI ⟨#[49]⟩ 1 := by unfold IsI Is; rw [show (⟨#[49]⟩ : ByteArray).toList = [49] from toList_lit [49], itoa_one]
    have wo : Hid (wid (sval (!(decide (x < 0) == decide (y < 0))) (q : Int)) ≤ 100000000) := by
      show _ ≤ _
      unfold wid
      rw [show (sval (!(decide (x < 0) == decide (y < 0))) (q : Int)).natAbs = q by unfold sval; split <;> omega]
      omega
    have hval : Hid (sval (!(decide (x < 0) == decide (y < 0))) (q : Int) - 1 = x.fdiv y) := by
      show _ = _
      rw [E.out.1, T4.out]; show -(q : Int) - 1 = _; omega
    go_wp2_with fail
    refine (ref_Minus o ⟨#[49]⟩ _ 1 _ ho hone wo.out (by have : wid 1 ≤ 1 := wid_le_of (k := 1) (by omega) (by decide)
                                                         omega)).mono ?_
    rintro e w5 ⟨o2, ho2, rfl, hb5⟩
    replace ho2 := ho2.cast hval.out
    go_wp2_with fail
    refine (ref_Times o2 b (x.fdiv y) y _ ho2 hb WF1.out WY1.out).mono ?_
    rintro e w3 ⟨t, ht, rfl, hb3⟩
    go_wp2_with fail
    refine (ref_Minus a t x _ _ ha ht WX1.out wfy.out).mono ?_
    rintro e w4 ⟨m, hm, rfl, hb4⟩
    go_wp2_with fail
    go_ret2
    have hB5 := hb2.trans (hb5.mono hb2.size)
    have hB3 := hB5.trans (hb3.mono hB5.size)
    exact ⟨o2, m, ho2, hm.cast hfm.out, rfl, hB3.trans (hb4.mono hB3.size)⟩

theorem ref_Parted (a b : ByteArray) (x y : Int) (w : World) (ha : IsI a x) (hb : IsI b y) (hy0 : y ≠ 0) (hx : wid x ≤ 10000000) (hy : wid y ≤ 10000000) :
    Calls Tryz.prog 123 #[.string a, .string b] w (PartedR x y w) := by
  by_cases hs : wid x ≤ 18 ∧ wid y ≤ 18
  · exact ref_Parted_small a b x y w ha hb hy0 hs.1 hs.2
  · exact ref_Parted_long a b x y w ha hb hy0 hx hy hs

end Go.Proofs.YtgkiaonakiflbaaGreatDoor

/- The contracts of metrolabref01's Shared, Small. -/
namespace Go.Proofs.YtgkiaonakiflbaaGreatDoor
open Go.RowKit

def strNat : Value → Nat | .string s => (num s.toList).toNat | _ => 0

set_option maxRecDepth 100000 in
set_option maxHeartbeats 1000000 in
theorem shared_walk (a b : ByteArray) (x y : Int) (G : Nat) (w : World) (ha : IsI a x) (hb : IsI b y) (hx : wid x ≤ 10000000) (hy : wid y ≤ 10000000) (hgi : Nat.gcd x.natAbs y.natAbs = G) :
    Calls Tryz.prog 99 #[.string a, .string b] w (NewText (G : Int) w) := by
  have sa := ha.size_le
  have sb := hb.size_le
  have sa' : a.size ≤ 140737488351232 := by omega
  have sb' : b.size ≤ 140737488351232 := by omega
  have Hg := Lib.hid hgi; clear hgi sa sb
  go_enter Tryz.func99, Tryz.ntmps99
  go_wp2_with fail
  refine (ref_sizeI a x _ ha sa').mono ?_
  rintro e w' ⟨d1, hd1, hs1, rfl, rfl⟩
  have z1 : d1.size ≤ 140737488351232 := by omega
  clear hs1
  go_wp2_with fail
  refine (ref_signed d1 x.natAbs false _ hd1 z1).mono ?_
  rintro e w' ⟨c1, hc1, rfl, rfl⟩
  go_wp2_with fail
  refine (ref_sizeI b y _ hb sb').mono ?_
  rintro e w' ⟨d2, hd2, hs2, rfl, rfl⟩
  have z2 : d2.size ≤ 140737488351232 := by omega
  clear hs2
  go_wp2_with fail
  refine (ref_signed d2 y.natAbs false _ hd2 z2).mono ?_
  rintro e w' ⟨c2, hc2, rfl, rfl⟩
  rw [sval_false] at hc1 hc2
  go_wp2_with fail
  go_loopw [0, 1] (fun u v wr => ∃ (p q : ByteArray) (X Y : Nat), u = .string p ∧ v = .string q ∧ IsI p (X : Int) ∧ IsI q (Y : Int) ∧ Hid (Nat.gcd X Y = G) ∧ wid (X : Int) ≤ 10000000 ∧ wid (Y : Int) ≤ 10000000 ∧ Below w.heap.size w wr) (fun _ v _ => strNat v)
  case atStart => exact ⟨c1, c2, x.natAbs, y.natAbs, rfl, rfl, hc1, hc2, Hg, Nat.le_trans (wid_mono (by omega)) hx, Nat.le_trans (wid_mono (by omega)) hy, Below.refl _ _⟩
  case round =>
    obtain ⟨p, q, X, Y, rfl, rfl, hp, hq, hg, wX, wY, hbr⟩ := hrel
    by_cases hY0 : Y = 0
    · have g1 := hq.is_zero (by omega)
      have HY := Lib.hid hY0; clear hY0
      go_wp2_with fail
      go_ret
      refine ⟨p, hp.cast ?_, rfl, hbr⟩
      have h1 := hg.out
      rw [HY.out, Nat.gcd_zero_right] at h1
      rw [h1]
    · have g1 := hq.not_zero (show (Y : Int) ≠ 0 by omega)
      have hYp : 0 < Y := by omega
      clear hY0
      by_cases h18 : wid (X : Int) ≤ 18 ∧ wid (Y : Int) ≤ 18
      · have n1 := number_bound h18.1
        have n2 := number_bound h18.2
        go_wp2_with fail
        refine (brief_yes p q X Y _ hp hq h18.1 h18.2).mono ?_
        rintro e w' ⟨rfl, rfl⟩
        go_wp2_with fail
        go_loopw [5, 6] (fun i j wi => ∃ (m n : Nat), i = .int .i64 (m : Int) ∧ j = .int .i64 (n : Int) ∧ (m : Int) < 1000000000000000000 ∧ (n : Int) < 1000000000000000000 ∧ Hid (Nat.gcd m n = G) ∧ Below w.heap.size w wi) (fun _ j _ => (intOf j).toNat)
        case atStart => exact ⟨X, Y, rfl, rfl, by omega, by omega, hg, hbr⟩
        case round =>
          obtain ⟨m, n, rfl, rfl, hm, hn, hg', hbi⟩ := hrel
          by_cases hn0 : n = 0
          · have t5 : decide ((0 : Int) < (n : Int)) = false := by simp [hn0]
            have t6 : decide (0 < n) = false := by simp [hn0]
            have HN := Lib.hid hn0; clear hn0
            go_wp2_with fail
            refine (ref_Of (m : Int) _ (by omega) (by omega)).mono ?_
            rintro e w7 ⟨c, hc, rfl, hb7⟩
            go_wp2_with fail
            go_ret
            refine ⟨c, hc.cast ?_, rfl, hbi.trans (hb7.mono hbi.size)⟩
            have h1 := hg'.out
            rw [HN.out, Nat.gcd_zero_right] at h1
            rw [h1]
          · have t5 : decide ((0 : Int) < (n : Int)) = true := by simp; omega
            have t6 : decide (0 < n) = true := by simp; omega
            have t7 : ((n : Int) == 0) = false := by simp [hn0]
            have hlt : m % n < n := Nat.mod_lt _ (by omega)
            have htm : (m : Int).tmod n = ((m % n : Nat) : Int) := rfl
            go_wp2_with fail
            go_quiet (fail)
            go_wp2_with fail
            go_roundw
            case rel => exact ⟨n, m % n, rfl, by go_num, hn, by omega, gcd_step hg'.out, below_drewN hbi _⟩
            case measure => simp [intOf]; omega
      · have hsp := hp.size_le
        have hsq := hq.size_le
        have hm : (X : Int).fmod Y = ((X % Y : Nat) : Int) := by
          have := Int.fmod_eq_emod_of_nonneg (X : Int) (show (0 : Int) ≤ Y by omega)
          rw [this]; rfl
        have HM := Lib.hid hm; clear hm
        have hYne : (Y : Int) ≠ 0 := by omega
        go_wp2_with fail
        refine (brief_no p q X Y _ hp hq (by omega) (by omega) (by omega)).mono ?_
        rintro e w' ⟨rfl, rfl⟩
        go_wp2_with fail
        refine (ref_Parted p q X Y _ hp hq hYne wX wY).mono ?_
        rintro e w2 ⟨c, d, hc, hd, rfl, hb2⟩
        rw [HM.out] at hd
        go_wp2_with fail
        go_roundw
        case rel => exact ⟨q, d, Y, X % Y, rfl, rfl, hq, hd, gcd_step hg.out, wY, Nat.le_trans (wid_mono (by have := Nat.mod_lt X hYp; omega)) wY, hbr.trans (hb2.mono hbr.size)⟩
        case measure =>
          show (num d.toList).toNat < (num q.toList).toNat
          rw [hd.num_eq, hq.num_eq]
          have := Nat.mod_lt X hYp
          omega

theorem ref_Shared (a b : ByteArray) (x y : Int) (w : World) (ha : IsI a x) (hb : IsI b y) (hx : wid x ≤ 10000000) (hy : wid y ≤ 10000000) :
    Calls Tryz.prog 99 #[.string a, .string b] w (NewText (Int.gcd x y : Int) w) :=
  shared_walk a b x y _ w ha hb hx hy rfl

end Go.Proofs.YtgkiaonakiflbaaGreatDoor
