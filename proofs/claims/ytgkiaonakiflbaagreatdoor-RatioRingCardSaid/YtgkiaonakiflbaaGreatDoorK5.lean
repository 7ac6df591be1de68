/- K5: the texts Qa Qb Qc Qd Qe Qf, joined. -/
import Derived.Test.YtgkiaonakiflbaaGreatDoorK4
/- Texts of rational numbers; the contracts of ratio's cut, joined and metrolabref02's slash, Split. -/
namespace Go.Proofs.YtgkiaonakiflbaaGreatDoor
open Go.RowKit

/-- The place of the first slash, or -1. -/
def slashI (s : Bytes) : Int := Lib.index s [47]
def cutN (s : Bytes) : Bytes := if 0 ≤ slashI s then s.take (slashI s).toNat else s
def cutD (s : Bytes) : Bytes := if 0 ≤ slashI s then s.drop ((slashI s).toNat + 1) else [49]
def cutW (s : Bytes) : Bool := decide (0 ≤ slashI s)

theorem slashI_none (s : Bytes) (h : ∀ c ∈ s, c ≠ 47) : slashI s = -1 := by
  unfold slashI
  induction s with
  | nil => rfl
  | cons b l ih =>
    have hb := h b (List.mem_cons_self ..)
    have h0 : ([47] : Bytes).isPrefixOf (b :: l) = false := by
      simp only [List.isPrefixOf, Bool.and_true]
      rw [beq_eq_false_iff_ne]; exact fun e => hb e.symm
    unfold Lib.index
    rw [h0, ih (fun c hc => h c (List.mem_cons_of_mem _ hc))]
    rfl
theorem slashI_some (l t : Bytes) (h : ∀ c ∈ l, c ≠ 47) : slashI (l ++ 47 :: t) = l.length := by
  unfold slashI
  induction l with
  | nil =>
    show Lib.index (47 :: t) [47] = 0
    unfold Lib.index
    rw [if_pos (by simp [List.isPrefixOf])]
  | cons b l ih =>
    have hb := h b (List.mem_cons_self ..)
    have h0 : ([47] : Bytes).isPrefixOf (b :: (l ++ 47 :: t)) = false := by
      simp only [List.isPrefixOf, Bool.and_true]
      rw [beq_eq_false_iff_ne]; exact fun e => hb e.symm
    show Lib.index (b :: (l ++ 47 :: t)) [47] = _
    unfold Lib.index
    rw [h0, ih (fun c hc => h c (List.mem_cons_of_mem _ hc))]
    have : ((l.length : Int) == -1) = false := by rw [beq_eq_false_iff_ne]; omega
    simp [this]
theorem slash_cases (s : Bytes) : (∀ c ∈ s, c ≠ 47) ∨ ∃ l t, s = l ++ 47 :: t ∧ ∀ c ∈ l, c ≠ 47 := by
  induction s with
  | nil => left; simp
  | cons b l ih =>
    by_cases hb : b = 47
    · right; exact ⟨[], l, by rw [hb]; rfl, by simp⟩
    · rcases ih with h | ⟨l', t, h1, h2⟩
      · left; intro c hc; rcases List.mem_cons.1 hc with e | e
        · rw [e]; exact hb
        · exact h c e
      · right; refine ⟨b :: l', t, by rw [h1]; rfl, ?_⟩
        intro c hc; rcases List.mem_cons.1 hc with e | e
        · rw [e]; exact hb
        · exact h2 c e
theorem slashI_range (s : Bytes) : -1 ≤ slashI s ∧ slashI s < s.length := by
  rcases slash_cases s with h | ⟨l, t, rfl, h⟩
  · rw [slashI_none s h]; omega
  · rw [slashI_some l t h]; simp; omega
theorem cut_lib (s : Bytes) : Lib.cut s [47] = (cutN s, if 0 ≤ slashI s then cutD s else [], cutW s) := by
  unfold Lib.cut cutN cutD cutW slashI
  by_cases h : 0 ≤ Lib.index s [47]
  · rw [if_pos h, if_pos h, if_pos h, if_pos h, decide_eq_true h]; rfl
  · rw [if_neg h, if_neg h, if_neg h, decide_eq_false h]
theorem cutN_le (s : Bytes) : (cutN s).length ≤ s.length := by
  unfold cutN; split
  · rw [List.length_take]; omega
  · exact Nat.le_refl _
theorem cutD_le (s : Bytes) : (cutD s).length ≤ s.length + 1 := by
  unfold cutD; split
  · rw [List.length_drop]; omega
  · simp
theorem cut_join (s : Bytes) (h : 0 ≤ slashI s) : s = cutN s ++ 47 :: cutD s := by
  rcases slash_cases s with hn | ⟨l, t, rfl, hl⟩
  · rw [slashI_none s hn] at h; omega
  · have e := slashI_some l t hl
    unfold cutN cutD
    rw [if_pos h, if_pos h, e, Int.toNat_natCast]
    simp

/-- The text of a quotient. -/
def rtext (n d : Int) : Bytes := Lib.itoa n ++ (if d = 1 then [] else 47 :: Lib.itoa d)
theorem itoa_no_slash (z : Int) : ∀ c ∈ Lib.itoa z, c ≠ 47 := by
  intro c hc
  by_cases h : z < 0
  · rw [itoa_neg h] at hc
    rcases List.mem_cons.1 hc with e | e
    · rw [e]; decide
    · have := (isDig_iff c).1 (decDigits_all _ c e)
      intro e2; rw [e2] at this; exact absurd this (by decide)
  · rw [itoa_nonneg (by omega)] at hc
    have := (isDig_iff c).1 (decDigits_all _ c hc)
    intro e2; rw [e2] at this; exact absurd this (by decide)
theorem rtext_one (n : Int) : rtext n 1 = Lib.itoa n := by unfold rtext; rw [if_pos rfl, List.append_nil]
theorem rtext_ne {n d : Int} (h : d ≠ 1) : rtext n d = Lib.itoa n ++ 47 :: Lib.itoa d := by unfold rtext; rw [if_neg h]
theorem slashI_rtext (n d : Int) : slashI (rtext n d) = if d = 1 then -1 else ((Lib.itoa n).length : Int) := by
  by_cases h : d = 1
  · subst h; rw [rtext_one, slashI_none _ (itoa_no_slash n), if_pos rfl]
  · rw [rtext_ne h, slashI_some _ _ (itoa_no_slash n), if_neg h]
theorem cutN_rtext (n d : Int) : cutN (rtext n d) = Lib.itoa n := by
  unfold cutN
  rw [slashI_rtext]
  by_cases h : d = 1
  · rw [if_pos h, if_neg (by omega), h, rtext_one]
  · rw [if_neg h, if_pos (by omega), rtext_ne h, Int.toNat_natCast]; simp
theorem cutD_rtext (n d : Int) : cutD (rtext n d) = Lib.itoa d := by
  unfold cutD
  rw [slashI_rtext]
  by_cases h : d = 1
  · rw [if_pos h, if_neg (by omega), h, itoa_one]
  · rw [if_neg h, if_pos (by omega), rtext_ne h, Int.toNat_natCast]; simp
theorem cutW_rtext (n d : Int) : cutW (rtext n d) = decide (d ≠ 1) := by
  unfold cutW
  rw [slashI_rtext]
  by_cases h : d = 1
  · rw [if_pos h]; simp [h]
  · rw [if_neg h]; simp [h]
theorem rtext_inj {n d m e : Int} (h : rtext n d = rtext m e) : n = m ∧ d = e :=
  ⟨itoa_inj (by rw [← cutN_rtext n d, ← cutN_rtext m e, h]), itoa_inj (by rw [← cutD_rtext n d, ← cutD_rtext m e, h])⟩

/-- The error of a text. -/
def chkR (s : Bytes) : Int :=
  if chk (cutN s) = 3 ∨ chk (cutD s) = 3 then 3 else if chk (cutN s) ≠ 0 ∨ chk (cutD s) ≠ 0 then 11
  else if cutW s = false then 0 else if num (cutD s) ≤ 1 ∨ Int.gcd (num (cutN s)) (num (cutD s)) ≠ 1 then 3 else 0

/-- A right number. -/
structure RR (c : ByteArray) (n d : Int) : Prop where
  text : c.toList = rtext n d
  pos : 0 < d
  cop : Int.gcd n d = 1
  wn : wid n ≤ 1024
  wd : wid d ≤ 1024

theorem chk_le (z : Int) (h : wid z ≤ 1024) : chk (Lib.itoa z) = 0 := by rw [chk_itoa, if_pos h]
theorem RR.chk {c : ByteArray} {n d : Int} (h : RR c n d) : chkR c.toList = 0 := by
  unfold chkR
  rw [h.text, cutN_rtext, cutD_rtext, chk_le n h.wn, chk_le d h.wd, if_neg (by omega), if_neg (by omega), cutW_rtext, num_itoa, num_itoa]
  by_cases h1 : d = 1
  · rw [if_pos (by simp [h1])]
  · rw [if_neg (by simp [h1]), if_neg (by have := h.pos; have := h.cop; omega)]
theorem RR.of_chk {c : ByteArray} (h : chkR c.toList = 0) : RR c (num (cutN c.toList)) (num (cutD c.toList)) := by
  unfold chkR at h
  by_cases h1 : Go.Proofs.YtgkiaonakiflbaaGreatDoor.chk (cutN c.toList) = 3 ∨ Go.Proofs.YtgkiaonakiflbaaGreatDoor.chk (cutD c.toList) = 3
  · rw [if_pos h1] at h; omega
  rw [if_neg h1] at h
  by_cases h2 : Go.Proofs.YtgkiaonakiflbaaGreatDoor.chk (cutN c.toList) ≠ 0 ∨ Go.Proofs.YtgkiaonakiflbaaGreatDoor.chk (cutD c.toList) ≠ 0
  · rw [if_pos h2] at h; omega
  rw [if_neg h2] at h
  have en : Go.Proofs.YtgkiaonakiflbaaGreatDoor.chk (cutN c.toList) = 0 := by omega
  have ed : Go.Proofs.YtgkiaonakiflbaaGreatDoor.chk (cutD c.toList) = 0 := by omega
  obtain ⟨n1, n2⟩ := chk_isNum en
  obtain ⟨d1, d2⟩ := chk_isNum ed
  have tn := itoa_num n1
  have td := itoa_num d1
  have wn : wid (num (cutN c.toList)) ≤ 1024 := by rw [← body_itoa_length, tn]; exact n2
  have wd : wid (num (cutD c.toList)) ≤ 1024 := by rw [← body_itoa_length, td]; exact d2
  by_cases h3 : cutW c.toList = false
  · have h4 : ¬ 0 ≤ slashI c.toList := by unfold cutW at h3; simpa using h3
    have eD : cutD c.toList = [49] := by unfold cutD; rw [if_neg h4]
    have eN : cutN c.toList = c.toList := by unfold cutN; rw [if_neg h4]
    have e1 : num (cutD c.toList) = 1 := by rw [eD, ← itoa_one, num_itoa]
    rw [e1] at wd ⊢
    exact ⟨by rw [rtext_one, tn, eN], by omega, by simp, wn, wd⟩
  · rw [if_neg h3] at h
    by_cases h5 : num (cutD c.toList) ≤ 1 ∨ Int.gcd (num (cutN c.toList)) (num (cutD c.toList)) ≠ 1
    · rw [if_pos h5] at h; omega
    · have h4 : 0 ≤ slashI c.toList := by unfold cutW at h3; simpa using h3
      refine ⟨?_, by omega, by omega, wn, wd⟩
      rw [rtext_ne (by omega), tn, td]
      exact cut_join _ h4

theorem RR.size {c : ByteArray} {n d : Int} (h : RR c n d) : c.size ≤ 2060 := by
  rw [← toList_length, h.text]
  have h1 := itoa_length_le n
  have h2 := itoa_length_le d
  have h3 := h.wn
  have h4 := h.wd
  unfold rtext
  rw [List.length_append]
  split
  · simp; omega
  · simp; omega

theorem sep_data : (⟨#[47]⟩ : ByteArray).data.toList = [47] := rfl

/-- cut, of any text. -/
theorem ratio_cut (a : ByteArray) (w : World) (hE : Env w) (hs : a.size < 4294967281) :
    Calls Tryz.prog 60 #[.string a] w fun e w' => ∃ c d, Is c (cutN a.toList) ∧ Is d (cutD a.toList) ∧ e = .returned (.tuple #[.string c, .string d, .bool (cutW a.toList)]) ∧ ∃ n, w' = w.drewN n := by
  obtain ⟨m, hm⟩ := hE.mx
  have hcut := cut_lib a.toList
  rw [ByteArray.toList_eq] at hcut
  by_cases h : 0 ≤ slashI a.toList
  · have hW : cutW a.data.toList = true := by rw [← ByteArray.toList_eq]; exact decide_eq_true h
    have HC : Hid (Lib.cut a.data.toList [47] = (cutN a.data.toList, cutD a.data.toList, cutW a.data.toList)) := by
      show _ = _
      rw [hcut, if_pos (by rw [← ByteArray.toList_eq]; exact h)]
    clear hcut h
    go_enter Tryz.func60, Tryz.ntmps60
    go_wp2_with fail
    refine (Tryz.strings_Cut a ⟨#[47]⟩ m _ hs hm).mono ?_
    rintro e w' ⟨rfl, n, rfl⟩
    rw [sep_data, HC.out]
    go_wp2_with fail
    go_ret3
    refine ⟨⟨(cutN a.data.toList).toArray⟩, ⟨(cutD a.data.toList).toArray⟩, ?_, ?_, by rw [ByteArray.toList_eq a, hW]; rfl, n, rfl⟩
    · rw [ByteArray.toList_eq a]; exact toList_lit _
    · rw [ByteArray.toList_eq a]; exact toList_lit _
  · have hW : cutW a.data.toList = false := by rw [← ByteArray.toList_eq]; exact decide_eq_false h
    have HC : Hid (Lib.cut a.data.toList [47] = (cutN a.data.toList, [], cutW a.data.toList)) := by
      show _ = _
      rw [hcut, if_neg (by rw [← ByteArray.toList_eq]; exact h)]
    have HD : Hid (cutD a.toList = [49]) := by show _ = _; unfold cutD; rw [if_neg h]
    clear hcut h
    go_enter Tryz.func60, Tryz.ntmps60
    go_wp2_with fail
    refine (Tryz.strings_Cut a ⟨#[47]⟩ m _ hs hm).mono ?_
    rintro e w' ⟨rfl, n, rfl⟩
    rw [sep_data, HC.out]
    go_wp2_with fail
    go_ret3
    refine ⟨⟨(cutN a.data.toList).toArray⟩, ⟨#[49]⟩, ?_, ?_, by rw [ByteArray.toList_eq a, hW]; rfl, n, rfl⟩
    · rw [ByteArray.toList_eq a]; exact toList_lit _
    · rw [HD.out]; exact toList_lit _

theorem ratio_joined (a b : ByteArray) (n d : Int) (w : World) (ha : IsI a n) (hb : IsI b d) (h1 : a.size ≤ 140737488351232) (h2 : b.size ≤ 140737488351232) :
    Calls Tryz.prog 93 #[.string a, .string b] w fun e w' => ∃ c, Is c (rtext n d) ∧ e = .returned (.string c) ∧ w = w' := by
  by_cases h : d = 1
  · have g := hb.is_one h
    have H := Lib.hid h; clear h
    go_enter Tryz.func93, Tryz.ntmps93
    go_wp2_with fail
    go_ret
    exact ⟨a, by rw [H.out, rtext_one]; exact ha.out, rfl, rfl⟩
  · have g := hb.not_one h
    have hz : (a ++ (⟨#[47]⟩ : ByteArray)).size = a.size + 1 := by rw [ByteArray.size_append]; rfl
    have HZ : Hid ((a ++ (⟨#[47]⟩ : ByteArray)).size ≤ 140737488351233) := by show _ ≤ _; omega
    clear hz
    go_enter Tryz.func93, Tryz.ntmps93
    have hz2 := HZ.out
    go_wp2_with fail
    go_ret
    refine ⟨_, ?_, rfl, rfl⟩
    unfold Is
    rw [rtext_ne h, toList_append, toList_append, ha.out, hb.out, show (⟨#[47]⟩ : ByteArray).toList = [47] from toList_lit _, List.append_assoc]
    rfl

set_option maxRecDepth 100000 in
theorem ref_slash (a : ByteArray) (w : World) (hs : a.size ≤ 9223372036854775806) :
    Calls Tryz.prog 98 #[.string a] w fun e w' => e = .returned (.int .i64 (slashI a.toList)) ∧ w = w' := by
  go_enter Tryz.func98, Tryz.ntmps98
  go_wp2_with fail
  go_loopw [3] (fun i wr => ∃ k : Nat, k ≤ a.size ∧ i = .int .i64 (k : Int) ∧ Hid (∀ c ∈ a.toList.take k, c ≠ 47) ∧ wr = w) (fun i _ => a.size - (intOf i).toNat)
  case atStart => exact ⟨0, Nat.zero_le _, rfl, by show ∀ c ∈ _, _; rw [List.take_zero]; simp, rfl⟩
  case round =>
    obtain ⟨k, hk, rfl, hno, rfl⟩ := hrel
    by_cases hlt : k < a.size
    · have hka : (k : Int) < a.size := by omega
      by_cases h47 : (a[k].toNat : Int) = 47
      · have hb : a[k] = 47 := by
          apply UInt8.toNat_inj.1
          have h48 : (47 : UInt8).toNat = 47 := rfl
          omega
        have he : slashI a.toList = k := by
          have e1 : a.toList = a.toList.take k ++ 47 :: a.toList.drop (k + 1) := by
            have := byte_at a k hlt
            obtain ⟨hl, he⟩ := List.getElem?_eq_some_iff.1 this
            rw [← hb, ← he]; exact (List.take_append_drop k _).symm.trans (by rw [List.drop_eq_getElem_cons hl])
          rw [e1, slashI_some _ _ hno.out, List.length_take, toList_length]
          congr 1; omega
        have HE := Lib.hid he; clear he hb
        go_wp2_with fail
        go_ret
        exact ⟨ret_int HE.out.symm, rfl⟩
      · have hn2 : ∀ c ∈ a.toList.take (k + 1), c ≠ 47 := by
          rw [List.take_add_one, byte_at a k hlt]
          intro c hc
          rcases List.mem_append.1 hc with e | e
          · exact hno.out c e
          · simp at e; rw [e]; intro e2; rw [e2] at h47; exact h47 rfl
        have HN := Lib.hid hn2; clear hn2
        have t1 : ((a[k].toNat : Int) == 47) = false := by rw [beq_eq_false_iff_ne]; exact h47
        go_wp2_with fail
        exact ⟨⟨k + 1, by omega, by go_num, HN.out, trivial⟩, by simp [intOf]; omega⟩
    · have he : slashI a.toList = -1 := by
        apply slashI_none
        have h := hno.out
        rw [List.take_of_length_le (by rw [toList_length]; omega)] at h
        exact h
      have HE := Lib.hid he; clear he
      go_wp2_with fail
      go_ret
      exact ⟨ret_int HE.out.symm, rfl⟩

end Go.Proofs.YtgkiaonakiflbaaGreatDoor

/- The contracts of ratio's Check, checks and metrolabref02's Split, Check. -/
namespace Go.Proofs.YtgkiaonakiflbaaGreatDoor
open Go.RowKit

theorem chk_vals (s : Bytes) : chk s = 0 ∨ chk s = 3 ∨ chk s = 11 := by
  unfold chk; repeat' split
  all_goals omega
theorem is_one_text : IsI ⟨#[49]⟩ 1 := by unfold IsI Is; rw [show (⟨#[49]⟩ : ByteArray).toList = [49] from toList_lit [49], itoa_one]
theorem is_zero_text : IsI ⟨#[48]⟩ 0 := by unfold IsI Is; rw [show (⟨#[48]⟩ : ByteArray).toList = [48] from toList_lit [48], itoa_zero]
theorem wid_one : wid 1 ≤ 1 := wid_le_of (k := 1) (by omega) (by decide)
theorem wid_zero : wid 0 ≤ 1 := wid_le_of (k := 1) (by omega) (by decide)

/-- What is known of a text's parts. -/
inductive Parts (s : Bytes) : Prop
  | form (h : chk (cutN s) = 3 ∨ chk (cutD s) = 3) (e : chkR s = 3)
  | large (h1 : chk (cutN s) = 11 ∧ chk (cutD s) = 0 ∨ chk (cutN s) = 0 ∧ chk (cutD s) = 11 ∨ chk (cutN s) = 11 ∧ chk (cutD s) = 11) (e : chkR s = 11)
  | whole (h1 : chk (cutN s) = 0) (h2 : chk (cutD s) = 0) (h3 : cutW s = false) (e : chkR s = 0)
  | frac (h1 : chk (cutN s) = 0) (h2 : chk (cutD s) = 0) (h3 : cutW s = true) (e : chkR s = if num (cutD s) ≤ 1 ∨ Int.gcd (num (cutN s)) (num (cutD s)) ≠ 1 then 3 else 0)
theorem parts (s : Bytes) : Parts s := by
  by_cases h1 : chk (cutN s) = 3 ∨ chk (cutD s) = 3
  · exact .form h1 (by unfold chkR; rw [if_pos h1])
  by_cases h2 : chk (cutN s) ≠ 0 ∨ chk (cutD s) ≠ 0
  · exact .large (by have := chk_vals (cutN s); have := chk_vals (cutD s); omega) (by unfold chkR; rw [if_neg h1, if_pos h2])
  have e1 : chk (cutN s) = 0 := by omega
  have e2 : chk (cutD s) = 0 := by omega
  by_cases h3 : cutW s = false
  · exact .whole e1 e2 h3 (by unfold chkR; rw [if_neg h1, if_neg h2, if_pos h3])
  · exact .frac e1 e2 (by simpa using h3) (by unfold chkR; rw [if_neg h1, if_neg h2, if_neg h3])

theorem cmpZ_one {d : Int} : (cmpZ d 1 ≤ 0) ↔ d ≤ 1 := by
  unfold cmpZ; repeat' split
  all_goals omega

set_option maxRecDepth 100000 in
set_option maxHeartbeats 1000000 in
theorem ratio_Check (a : ByteArray) (w : World) (hE : Env w) (hs : a.size < 4294967281) :
    Calls Tryz.prog 47 #[.string a] w fun e w' => e = .returned (.int .i64 (chkR a.toList)) ∧ Below w.heap.size w w' := by
  have ln := cutN_le a.toList
  have ld := cutD_le a.toList
  rw [toList_length] at ln ld
  have HP := Lib.hid (parts a.toList)
  go_enter Tryz.func47, Tryz.ntmps47
  go_wp2_with fail
  refine (ratio_cut a _ hE hs).mono ?_
  rintro e w' ⟨c, d, hc, hd, rfl, k, rfl⟩
  have zc : c.size ≤ 140737488351232 := by rw [hc.size]; omega
  have zd : d.size ≤ 140737488351232 := by rw [hd.size]; omega
  go_wp2_with fail
  refine (whole_Check c _ zc).mono ?_
  rintro e w1 ⟨rfl, hb1⟩
  rw [hc.out]
  go_wp2_with fail
  refine (whole_Check d _ zd).mono ?_
  rintro e w2 ⟨rfl, hb2⟩
  rw [hd.out]
  have hB1 : Below w.heap.size w w1 := ⟨hb1.os, hb1.tape, hb1.output, hb1.size, hb1.block⟩
  have hB2 := hB1.trans (hb2.mono hB1.size)
  clear ln ld
  rcases HP.out with ⟨h, e⟩ | ⟨h, e⟩ | ⟨h1, h2, h3, e⟩ | ⟨h1, h2, h3, e⟩
  · have E := Lib.hid e; clear e
    rcases h with h | h
    · rw [h]
      go_wp2_with fail
      go_ret
      exact ⟨ret_int E.out.symm, hB2⟩
    · rw [h]
      rcases chk_vals (cutN a.toList) with g | g | g
      all_goals
        rw [g]
        go_wp2_with fail
        go_ret
        exact ⟨ret_int E.out.symm, hB2⟩
  · have E := Lib.hid e; clear e
    rcases h with ⟨h1, h2⟩ | ⟨h1, h2⟩ | ⟨h1, h2⟩
    all_goals
      rw [h1, h2]
      go_wp2_with fail
      go_ret
      exact ⟨ret_int E.out.symm, hB2⟩
  · have E := Lib.hid e; clear e
    rw [h1, h2, h3]
    go_wp2_with fail
    go_ret
    exact ⟨ret_int E.out.symm, hB2⟩
  · have E := Lib.hid e; clear e
    rw [h1, h2, h3]
    have h1' := h1; have h2' := h2
    rw [← hc.out] at h1'
    rw [← hd.out] at h2'
    obtain ⟨ic, wc⟩ := chk_num h1'
    obtain ⟨id, wd⟩ := chk_num h2'
    rw [hc.out] at ic wc
    rw [hd.out] at id wd
    generalize num (cutN a.toList) = n at *
    generalize num (cutD a.toList) = m at *
    clear h1 h2 h1' h2' h3
    go_wp2_with fail
    refine (whole_Compare_ok d ⟨#[49]⟩ m 1 _ id is_one_text wd (by have := wid_one; omega)).mono ?_
    rintro e w3 ⟨rfl, hb3⟩
    unfold R2
    have hB3 := hB2.trans (hb3.mono hB2.size)
    go_wp2_with fail
    refine (whole_Gcd c d n m _ (hE.below hB3) ⟨ic, wc⟩ ⟨id, wd⟩).mono ?_
    rintro e w4 ⟨g, hg, rfl, hb4⟩
    have hB4 := hB3.trans (hb4.mono hB3.size)
    by_cases h6 : m ≤ 1
    · have t1 : decide (cmpZ m 1 ≤ 0) = true := decide_eq_true (cmpZ_one.2 h6)
      have E3 : Hid (chkR a.toList = 3) := by show _ = _; rw [E.out, if_pos (.inl h6)]
      clear h6
      go_wp2_with fail
      go_ret
      exact ⟨ret_int E3.out.symm, hB4⟩
    · have t1 : decide (cmpZ m 1 ≤ 0) = false := decide_eq_false (fun h => h6 (cmpZ_one.1 h))
      by_cases h7 : Int.gcd n m = 1
      · have t2 := hg.is.is_one (by omega)
        have E3 : Hid (chkR a.toList = 0) := by show _ = _; rw [E.out, if_neg (by omega)]
        clear h6 h7
        go_wp2_with fail
        go_ret
        exact ⟨ret_int E3.out.symm, hB4⟩
      · have t2 := hg.is.not_one (by omega)
        have E3 : Hid (chkR a.toList = 3) := by show _ = _; rw [E.out, if_pos (by omega)]
        clear h6 h7
        go_wp2_with fail
        go_ret
        exact ⟨ret_int E3.out.symm, hB4⟩

end Go.Proofs.YtgkiaonakiflbaaGreatDoor

/- The contracts of ratio's checks and metrolabref02's Split, Check. -/
namespace Go.Proofs.YtgkiaonakiflbaaGreatDoor
open Go.RowKit

def FitsR (ss : List ByteArray) : Prop := ∀ s ∈ ss, s.size < 4294967281

set_option maxRecDepth 100000 in
set_option maxHeartbeats 400000 in
theorem ratio_checks (b off n c : Nat) (ss : List ByteArray) (w : World) (hE : Env w) (hn : ss.length = n) (hmax : n ≤ 4294967296) (hf : FitsR ss) (hr : Row w b off (strs ss)) :
    Calls Tryz.prog 59 #[.slice (some ⟨b, off, none⟩) n c] w fun e w' => e = .returned (.int .i64 (firstErr chkR ss)) ∧ Below w.heap.size w w' := by
  have Hn := Lib.hid hn; clear hn
  go_enter Tryz.func59, Tryz.ntmps59
  go_wp2_with fail
  go_loopw [8] (fun i wr => ∃ k : Nat, k ≤ n ∧ i = .int .i64 k ∧ Below w.heap.size w wr ∧ Hid (firstErr chkR ss = firstErr chkR (ss.drop k))) (fun i _ => n - (intOf i).toNat)
  case atStart => exact ⟨0, by omega, rfl, Below.refl _ _, rfl⟩
  case round =>
    obtain ⟨k, hk, rfl, hb, hfe⟩ := hrel
    by_cases hlt : k < n
    · have hkl : k < ss.length := by have := Hn.out; omega
      obtain ⟨s, hs⟩ : ∃ s, s = ss[k] := ⟨_, rfl⟩
      have hcell : wr.cell? ⟨b, off + k, none⟩ = some (.string s) := by
        have := (hr.below hb).2 k (by simpa [strs] using hkl)
        rw [this, hs]; simp [strs]
      have hsz := hf s (by rw [hs]; exact List.getElem_mem hkl)
      have Hs := Lib.hid hs; clear hs
      have hEr := hE.below hb
      by_cases he : chkR s.toList = 0
      · have g1 : (chkR s.toList != 0) = false := by simp [he]
        have He := Lib.hid he; clear he
        go_wp2_with (go_at_call 47; refine (ratio_Check _ _ hEr hsz).mono ?_; rintro e w' ⟨rfl, hb1⟩)
        go_roundw
        case rel =>
          exact ⟨k + 1, by omega, by go_num, hb.trans (hb1.mono hb.size), by
            refine Eq.trans hfe.out ?_
            rw [firstErr_drop hkl, if_pos (by rw [← Hs.out]; exact He.out)]⟩
        case measure => simp [intOf]; omega
      · have g1 : (chkR s.toList != 0) = true := by simp [he]
        have He := Lib.hid he; clear he
        go_wp2_with (go_at_call 47; refine (ratio_Check _ _ hEr hsz).mono ?_; rintro e w' ⟨rfl, hb1⟩)
        go_ret
        exact ⟨ret_int (by rw [hfe.out, firstErr_drop hkl, if_neg (by rw [← Hs.out]; exact He.out), ← Hs.out]), hb.trans (hb1.mono hb.size)⟩
    · go_wp2_with fail
      go_ret
      exact ⟨ret_int (by rw [hfe.out, List.drop_eq_nil_of_le (by have := Hn.out; omega)]; rfl), hb⟩

/-- checks of texts that are given one by one. -/
theorem checks_new (ss : List ByteArray) (w : World) (T : TypeId) (n : Nat) (hn : ss.length = n) (hE : Env w) (hmax : n ≤ 4294967296) (hf : FitsR ss) :
    Calls Tryz.prog 59 #[.slice (some ⟨w.heap.size, 0, none⟩) n n] (w.alloc (.cells (strs ss).toArray T)) fun e w' =>
      e = .returned (.int .i64 (firstErr chkR ss)) ∧ Below w.heap.size w w' := by
  refine (ratio_checks w.heap.size 0 n n ss _ (hE.below ((Below.refl _ w).alloc (Nat.le_refl _) _)) hn hmax hf (row_new w _ T)).mono ?_
  rintro e w' ⟨rfl, h⟩
  exact ⟨rfl, below_of_alloc (by rw [World.size_alloc] at h; exact h.mono (by omega))⟩

set_option maxRecDepth 100000 in
set_option maxHeartbeats 1000000 in
theorem ref_Split (a : ByteArray) (w : World) (hs : a.size ≤ 140737488351232) :
    Calls Tryz.prog 56 #[.string a] w fun e w' => ∃ c d, Is c (cutN a.toList) ∧ Is d (cutD a.toList) ∧ e = .returned (.tuple #[.string c, .string d]) ∧ ∃ n, w' = w.drewN n := by
  have hr := slashI_range a.toList
  rw [toList_length] at hr
  obtain ⟨r0, r1⟩ := hr
  by_cases h : 0 ≤ slashI a.toList
  · obtain ⟨i, hi⟩ : ∃ i : Nat, slashI a.toList = i := ⟨(slashI a.toList).toNat, by omega⟩
    have hN : Hid (cutN a.toList = a.toList.take i) := by show _ = _; unfold cutN; rw [hi, if_pos (by omega)]; rfl
    have hD : Hid (cutD a.toList = a.toList.drop (i + 1)) := by show _ = _; unfold cutD; rw [hi, if_pos (by omega)]; rfl
    have HI := Lib.hid hi
    rw [hi] at r1
    clear r0 h hi
    have hi1 : IntKind.i64.wrap ((i : Int) + 1) = (i : Int) + 1 := by rw [IntKind.wrap_i64]; omega
    have j0 : (0 : Int) ≤ (i : Int) := by omega
    have j1 : (i : Int) + 1 ≤ a.size := by omega
    go_enter Tryz.func56, Tryz.ntmps56
    go_wp2_with fail
    refine (ref_slash a _ (by omega)).mono ?_
    rintro e w' ⟨rfl, rfl⟩
    rw [HI.out]
    go_wp2_with fail
    go_quiet (fail)
    go_wp2_with fail
    go_ret2
    refine ⟨a.extract 0 i, a.extract (i + 1) a.size, ?_, ?_, rfl, _, rfl⟩
    · unfold Is; rw [hN.out, toList_extract, List.drop_zero]
    · unfold Is; rw [hD.out, toList_extract, List.take_of_length_le (by rw [toList_length]; exact Nat.le_refl _)]
  · have hi : slashI a.toList = -1 := by omega
    have hN : Hid (cutN a.toList = a.toList) := by show _ = _; unfold cutN; rw [if_neg h]
    have hD : Hid (cutD a.toList = [49]) := by show _ = _; unfold cutD; rw [if_neg h]
    have HI := Lib.hid hi
    clear r0 r1 h hi
    go_enter Tryz.func56, Tryz.ntmps56
    go_wp2_with fail
    refine (ref_slash a _ (by omega)).mono ?_
    rintro e w' ⟨rfl, rfl⟩
    rw [HI.out]
    go_wp2_with fail
    go_ret2
    exact ⟨a, ⟨#[49]⟩, by unfold Is; rw [hN.out], by unfold Is; rw [hD.out]; exact toList_lit _, rfl, 0, rfl⟩

set_option maxRecDepth 100000 in
set_option maxHeartbeats 1000000 in
theorem ref_CheckR (a : ByteArray) (w : World) (hs : a.size ≤ 140737488300000) :
    Calls Tryz.prog 48 #[.string a] w fun e w' => e = .returned (.int .i64 (chkR a.toList)) ∧ Below w.heap.size w w' := by
  have ln := cutN_le a.toList
  have ld := cutD_le a.toList
  have hr := slashI_range a.toList
  rw [toList_length] at ln ld hr
  have HP := Lib.hid (parts a.toList)
  have HR := Lib.hid hr; clear hr
  go_enter Tryz.func48, Tryz.ntmps48
  go_wp2_with fail
  refine (ref_Split a _ (by omega)).mono ?_
  rintro e w' ⟨c, d, hc, hd, rfl, k, rfl⟩
  have zc : c.size ≤ 140737488351232 := by rw [hc.size]; omega
  have zd : d.size ≤ 140737488351232 := by rw [hd.size]; omega
  clear ln ld
  have hB0 : Below w.heap.size w (w.drewN k) := below_drewN (Below.refl _ _) k
  have Kc : ∀ wx, Calls Tryz.prog 85 #[.string c] wx fun e w' => e = .returned (.int .i64 (chk (cutN a.toList))) ∧ wx = w' := fun wx => by
    have := ref_Check c wx zc; rw [hc.out] at this; exact this
  have Kd : ∀ wx, Calls Tryz.prog 85 #[.string d] wx fun e w' => e = .returned (.int .i64 (chk (cutD a.toList))) ∧ wx = w' := fun wx => by
    have := ref_Check d wx zd; rw [hd.out] at this; exact this
  have KC := Lib.hid Kc; have KD := Lib.hid Kd; clear Kc Kd
  rcases HP.out with ⟨h, e⟩ | ⟨h, e⟩ | ⟨h1, h2, h3, e⟩ | ⟨h1, h2, h3, e⟩
  · have E := Lib.hid e; clear e
    by_cases h1 : chk (cutN a.toList) = 3
    · go_wp2_with fail
      refine (KC.out _).mono ?_
      rintro e w' ⟨rfl, rfl⟩
      rw [h1]
      go_wp2_with fail
      go_ret
      exact ⟨ret_int E.out.symm, hB0⟩
    · have h2 : chk (cutD a.toList) = 3 := by omega
      rcases (show chk (cutN a.toList) = 0 ∨ chk (cutN a.toList) = 11 by have := chk_vals (cutN a.toList); omega) with g | g
      all_goals
        clear h
        go_wp2_with fail
        refine (KC.out _).mono ?_
        rintro e w' ⟨rfl, rfl⟩
        rw [g]
        go_wp2_with fail
        refine (KD.out _).mono ?_
        rintro e w' ⟨rfl, rfl⟩
        rw [h2]
        go_wp2_with fail
        go_ret
        exact ⟨ret_int E.out.symm, hB0⟩
  · have E := Lib.hid e; clear e
    rcases h with ⟨h1, h2⟩ | ⟨h1, h2⟩ | ⟨h1, h2⟩
    · go_wp2_with fail
      refine (KC.out _).mono ?_
      rintro e w' ⟨rfl, rfl⟩
      rw [h1]
      go_wp2_with fail
      refine (KD.out _).mono ?_
      rintro e w' ⟨rfl, rfl⟩
      rw [h2]
      go_wp2_with fail
      refine (KC.out _).mono ?_
      rintro e w' ⟨rfl, rfl⟩
      rw [h1]
      go_wp2_with fail
      go_ret
      exact ⟨ret_int E.out.symm, hB0⟩
    · go_wp2_with fail
      refine (KC.out _).mono ?_
      rintro e w' ⟨rfl, rfl⟩
      rw [h1]
      go_wp2_with fail
      refine (KD.out _).mono ?_
      rintro e w' ⟨rfl, rfl⟩
      rw [h2]
      go_wp2_with fail
      refine (KC.out _).mono ?_
      rintro e w' ⟨rfl, rfl⟩
      rw [h1]
      go_wp2_with fail
      refine (KD.out _).mono ?_
      rintro e w' ⟨rfl, rfl⟩
      rw [h2]
      go_wp2_with fail
      go_ret
      exact ⟨ret_int E.out.symm, hB0⟩
    · go_wp2_with fail
      refine (KC.out _).mono ?_
      rintro e w' ⟨rfl, rfl⟩
      rw [h1]
      go_wp2_with fail
      refine (KD.out _).mono ?_
      rintro e w' ⟨rfl, rfl⟩
      rw [h2]
      go_wp2_with fail
      refine (KC.out _).mono ?_
      rintro e w' ⟨rfl, rfl⟩
      rw [h1]
      go_wp2_with fail
      go_ret
      exact ⟨ret_int E.out.symm, hB0⟩
  all_goals
    have E := Lib.hid e; clear e
    have h1' := h1; have h2' := h2
    rw [← hc.out] at h1'
    rw [← hd.out] at h2'
    obtain ⟨ic, wc⟩ := chk_num h1'
    obtain ⟨id, wd⟩ := chk_num h2'
    rw [hc.out] at ic wc
    rw [hd.out] at id wd
    clear h1' h2'
    go_wp2_with fail
    refine (KC.out _).mono ?_
    rintro e w' ⟨rfl, rfl⟩
    rw [h1]
    go_wp2_with fail
    refine (KD.out _).mono ?_
    rintro e w' ⟨rfl, rfl⟩
    rw [h2]
    go_wp2_with fail
    refine (KC.out _).mono ?_
    rintro e w' ⟨rfl, rfl⟩
    rw [h1]
    go_wp2_with fail
    refine (KD.out _).mono ?_
    rintro e w' ⟨rfl, rfl⟩
    rw [h2]
    go_wp2_with fail
    refine (ref_slash a _ (by omega)).mono ?_
    rintro e w' ⟨rfl, rfl⟩
  · have hi : slashI a.toList = -1 := by
      have h4 : ¬ 0 ≤ slashI a.toList := by unfold cutW at h3; simpa using h3
      have := HR.out; omega
    rw [hi]
    go_wp2_with fail
    go_ret
    exact ⟨ret_int E.out.symm, hB0⟩
  · have h4 : 0 ≤ slashI a.toList := by unfold cutW at h3; simpa using h3
    have h5 := HR.out.2
    generalize slashI a.toList = i at *
    generalize num (cutN a.toList) = n at *
    generalize num (cutD a.toList) = m at *
    go_wp2_with fail
    refine (ref_Order d ⟨#[49]⟩ m 1 _ id is_one_text (by omega) (by have := wid_one; omega)).mono ?_
    rintro e w3 ⟨rfl, hb3⟩
    have hB3 := hB0.trans (hb3.mono hB0.size)
    by_cases h6 : m ≤ 1
    · have t1 : decide (cmpZ m 1 ≤ 0) = true := decide_eq_true (cmpZ_one.2 h6)
      have E3 : Hid (chkR a.toList = 3) := by show _ = _; rw [E.out, if_pos (.inl h6)]
      clear h6
      go_wp2_with fail
      go_ret
      exact ⟨ret_int E3.out.symm, hB3⟩
    · have t1 : decide (cmpZ m 1 ≤ 0) = false := decide_eq_false (fun h => h6 (cmpZ_one.1 h))
      have H6 := Lib.hid h6; clear h6
      go_wp2_with fail
      refine (ref_Shared c d n m _ ic id (by omega) (by omega)).mono ?_
      rintro e w4 ⟨g, hg, rfl, hb4⟩
      have hB4 := hB3.trans (hb4.mono hB3.size)
      by_cases h7 : Int.gcd n m = 1
      · have t2 := hg.is_one (by omega)
        have E3 : Hid (chkR a.toList = 0) := by show _ = _; rw [E.out, if_neg (by have := H6.out; omega)]
        clear h7
        go_wp2_with fail
        go_ret
        exact ⟨ret_int E3.out.symm, hB4⟩
      · have t2 := hg.not_one (by omega)
        have E3 : Hid (chkR a.toList = 3) := by show _ = _; rw [E.out, if_pos (by omega)]
        clear h7
        go_wp2_with fail
        go_ret
        exact ⟨ret_int E3.out.symm, hB4⟩

end Go.Proofs.YtgkiaonakiflbaaGreatDoor

/- The contracts of ratio's sums. -/
namespace Go.Proofs.YtgkiaonakiflbaaGreatDoor
open Go.RowKit

/-- The error and the value behind an operation. -/
def de (e z : Int) : Int := if e = 0 then limE z else e
def dv (e z : Int) : Int := if e = 0 then (if wid z ≤ 1024 then z else 0) else 0
theorem de_ok {z : Int} (h : wid z ≤ 1024) : de 0 z = 0 := by unfold de; rw [if_pos rfl, limE0 h]
theorem dv_ok {z : Int} (h : wid z ≤ 1024) : dv 0 z = z := by unfold dv; rw [if_pos rfl, if_pos h]
theorem de_no {z : Int} (h : ¬ wid z ≤ 1024) : de 0 z = 11 := by unfold de; rw [if_pos rfl, limE11 h]
theorem dv_no {z : Int} (h : ¬ wid z ≤ 1024) : dv 0 z = 0 := by unfold dv; rw [if_pos rfl, if_neg h]
theorem de_err {e z : Int} (h : e ≠ 0) : de e z = e := by unfold de; rw [if_neg h]
theorem dv_err {e z : Int} (h : e ≠ 0) : dv e z = 0 := by unfold dv; rw [if_neg h]
theorem wid_dv (e z : Int) : wid (dv e z) ≤ 1024 := by
  have := wid_zero
  unfold dv
  split
  · split
    · assumption
    · omega
  · omega

theorem Env.only2 {a b : World} {g : Nat} (h : Env a) (k : a.grownBy b (some g)) (hg : g ≠ 1 ∧ g ≠ 0) : Env b := by
  refine ⟨?_, ?_⟩
  · have ht := h.tab
    have hlt : 1 < a.heap.size := block_lt_of_cell (ht.cell gTab 0 (by decide))
    unfold Lib.TabIs World.var? at *
    rw [gTab] at *
    simp only [Option.bind_some] at ht ⊢
    rw [k.block _ hlt (by intro e; injection e with e; exact hg.1 e.symm)]
    exact ht
  · obtain ⟨m, hm⟩ := h.mx
    have hlt : 0 < a.heap.size := block_lt_of_cell hm
    exact ⟨m, by
      have e := World.cell?_of_block (w := a) (a := ⟨0, 0, none⟩) (k.block 0 hlt (by intro e; injection e with e; exact hg.2 e.symm))
      rw [e]; exact hm⟩
theorem Env.far {w : World} (h : Env w) {s : Nat} (hs : w.heap.size ≤ s) : s ≠ 1 ∧ s ≠ 0 := by
  have h1 : 1 < w.heap.size := block_lt_of_cell (h.tab.cell gTab 0 (by decide))
  obtain ⟨m, hm⟩ := h.mx
  have h2 : 0 < w.heap.size := block_lt_of_cell hm
  omega

/-- Block s holds the error e. -/
structure St (w : World) (s : Nat) (e : Int) : Prop where
  row : w.rowIs s 90 1 (fun _ => .int .i64 e)
  far : s ≠ 1 ∧ s ≠ 0
theorem St.cell {w : World} {s : Nat} {e : Int} (h : St w s e) : w.cell? ⟨s, 0, none⟩ = some (.int .i64 e) := h.row.cell (by omega)
theorem St.frozen {w : World} {s : Nat} {e : Int} (h : St w s e) : w.frozen? ⟨s, 0, none⟩ = false := h.row.frozen 0
theorem St.lt {w : World} {s : Nat} {e : Int} (h : St w s e) : s < w.heap.size := h.row.lt
theorem St.below {w w' : World} {s : Nat} {e : Int} (h : St w s e) (hb : Below w.heap.size w w') : St w' s e := ⟨h.row.of_block (hb.block s h.lt), h.far⟩
theorem St.set {w : World} {s : Nat} {e : Int} (h : St w s e) (x : Int) : St (w.setCell ⟨s, 0, none⟩ (.int .i64 x)) s x := ⟨(h.row.set 0 _).congr (fun i hi => if_pos (by omega)), h.far⟩
theorem St.drewN {w : World} {s : Nat} {e : Int} (h : St w s e) (k : Nat) : St (w.drewN k) s e := ⟨h.row, h.far⟩

/-- What an operation of sums leaves. -/
def Did (s : Nat) (e' v : Int) (w : World) (r : Ending) (w' : World) : Prop := ∃ c, RI c v ∧ r = .returned (.string c) ∧ w.grownBy w' (some s) ∧ St w' s e'

theorem only_set' {a w : World} {s : Nat} (h : Below a.heap.size a w) (u : Value) : a.grownBy (w.setCell ⟨s, 0, none⟩ u) (some s) :=
  only_set (only_below (World.grownBy.refl a (some s)) h) 0 u

set_option maxRecDepth 100000 in
set_option maxHeartbeats 1000000 in
theorem sums_do (F : Nat) (hF : F = 111 ∨ F = 110 ∨ F = 54 ∨ F = 97 ∨ F = 95) (s : Nat) (e z : Int) (a b : ByteArray) (w : World) (hs : St w s e) (hop : e = 0 → Calls Tryz.prog F #[.string a, .string b] w (Lim z w)) :
    Calls Tryz.prog 109 #[.pointer (some ⟨s, 0, none⟩), .func (.func F) #[] #[], .string a, .string b] w (Did s (de e z) (dv e z) w) := by
  have c := hs.cell
  by_cases he : e = 0
  · subst he
    have HOP := Lib.hid (hop rfl); clear hop
    by_cases hw : wid z ≤ 1024
    · rw [de_ok hw, dv_ok hw]
      have e1 := limE0 hw
      rcases hF with rfl | rfl | rfl | rfl | rfl
      all_goals
        go_enter Tryz.func109, Tryz.ntmps109
        go_wp2_with fail
        refine HOP.out.mono ?_
        rintro r w1 ⟨d, hd, rfl, hb⟩
        rw [e1]
        have hs1 := hs.below hb
        have c1 := hs1.cell
        have f1 := hs1.frozen
        go_wp2_with fail
        go_ret
        exact ⟨d, RI.lim hd hw, rfl, only_set' hb _, hs1.set 0⟩
    · rw [de_no hw, dv_no hw]
      have e1 := limE11 hw
      rcases hF with rfl | rfl | rfl | rfl | rfl
      all_goals
        go_enter Tryz.func109, Tryz.ntmps109
        go_wp2_with fail
        refine HOP.out.mono ?_
        rintro r w1 ⟨d, hd, rfl, hb⟩
        rw [e1]
        have hs1 := hs.below hb
        have c1 := hs1.cell
        have f1 := hs1.frozen
        go_wp2_with fail
        go_ret
        exact ⟨_, ⟨is_zero_text, by have := wid_zero; omega⟩, rfl, only_set' hb _, hs1.set 11⟩
  · rw [de_err he, dv_err he]
    have t1 : (e != 0) = true := by simp [he]
    have HE := Lib.hid he; clear he hop
    go_enter Tryz.func109, Tryz.ntmps109
    go_wp2_with fail
    go_ret
    exact ⟨_, ⟨is_zero_text, by have := wid_zero; omega⟩, rfl, World.grownBy.refl _ _, hs⟩

theorem sums_add (s : Nat) (e x y : Int) (a b : ByteArray) (w : World) (hE : Env w) (hs : St w s e) (ha : RI a x) (hb : RI b y) :
    Calls Tryz.prog 65 #[.pointer (some ⟨s, 0, none⟩), .string a, .string b] w (Did s (de e (x + y)) (dv e (x + y)) w) := by
  go_enter Tryz.func65, Tryz.ntmps65
  go_wp2_with fail
  refine (sums_do 111 (by simp) s e (x + y) a b _ hs (fun _ => whole_Add a b x y _ hE ha hb)).mono ?_
  rintro r w1 ⟨c, hc, rfl, hg, hs1⟩
  go_wp2_with fail
  go_ret
  exact ⟨c, hc, rfl, hg, hs1⟩

theorem sums_sub (s : Nat) (e x y : Int) (a b : ByteArray) (w : World) (hE : Env w) (hs : St w s e) (ha : RI a x) (hb : RI b y) :
    Calls Tryz.prog 64 #[.pointer (some ⟨s, 0, none⟩), .string a, .string b] w (Did s (de e (x - y)) (dv e (x - y)) w) := by
  go_enter Tryz.func64, Tryz.ntmps64
  go_wp2_with fail
  refine (sums_do 110 (by simp) s e (x - y) a b _ hs (fun _ => whole_Sub a b x y _ hE ha hb)).mono ?_
  rintro r w1 ⟨c, hc, rfl, hg, hs1⟩
  go_wp2_with fail
  go_ret
  exact ⟨c, hc, rfl, hg, hs1⟩

/-- Products, one after the other. -/
def mulE (e v : Int) : List Int → Int
  | [] => e
  | z :: t => mulE (de e (v * z)) (dv e (v * z)) t
def mulV (e v : Int) : List Int → Int
  | [] => v
  | z :: t => mulV (de e (v * z)) (dv e (v * z)) t

set_option maxRecDepth 100000 in
set_option maxHeartbeats 1000000 in
theorem sums_mul (s : Nat) (e : Int) (b off n c : Nat) (ss : List ByteArray) (zs : List Int) (w : World) (hE : Env w) (hs : St w s e) (hn : zs.length = n) (hl : ss.length = n) (hn1 : n ≤ 4096)
    (hz : ∀ i (h : i < ss.length) (h' : i < zs.length), RI ss[i] zs[i]) (hr : Row w b off (strs ss)) (hbs : b ≠ s) :
    Calls Tryz.prog 61 #[.pointer (some ⟨s, 0, none⟩), .slice (some ⟨b, off, none⟩) n c] w (Did s (mulE e 1 zs) (mulV e 1 zs) w) := by
  have Hn := Lib.hid hn; have Hl := Lib.hid hl; clear hn hl
  go_enter Tryz.func61, Tryz.ntmps61
  go_wp2_with fail
  go_loopw [5, 13] (fun o i wr => ∃ (k : Nat) (d : ByteArray) (e' v : Int), k ≤ n ∧ o = .string d ∧ i = .int .i64 (k : Int) ∧ RI d v ∧ Hid (mulE e 1 zs = mulE e' v (zs.drop k)) ∧ Hid (mulV e 1 zs = mulV e' v (zs.drop k)) ∧ w.grownBy wr (some s) ∧ St wr s e') (fun _ i _ => n - (intOf i).toNat)
  case atStart => exact ⟨0, _, e, 1, Nat.zero_le _, rfl, rfl, ⟨is_one_text, by have := wid_one; omega⟩, rfl, rfl, World.grownBy.refl _ _, hs⟩
  case round =>
    obtain ⟨k, d, e', v, hk, rfl, rfl, hd, hme, hmv, hg, hst⟩ := hrel
    by_cases hlt : k < n
    · have hk1 : k < ss.length := by have := Hl.out; omega
      have hk2 : k < zs.length := by have := Hn.out; omega
      have hsz := hz k hk1 hk2
      have hcell : wr.cell? ⟨b, off + k, none⟩ = some (.string ss[k]) := by
        have h1 := hr.2 k (by simpa [strs] using hk1)
        have h2 : wr.cell? ⟨b, off + k, none⟩ = w.cell? ⟨b, off + k, none⟩ := World.cell?_of_block (w := w) (hg.block b hr.1 (fun h => hbs (by injection h)))
        rw [h2, h1]; simp [strs]
      have hdr : zs.drop k = zs[k] :: zs.drop (k + 1) := List.drop_eq_getElem_cons hk2
      rw [hdr] at hme hmv
      generalize ss[k] = u at *
      generalize zs[k] = z at *
      have hE2 := hE.only2 hg hs.far
      clear hdr hk1 hk2
      go_wp2_with fail
      refine (sums_do 54 (by simp) s e' (v * z) d u _ hst (fun _ => whole_Mul d u v z _ hE2 hd hsz)).mono ?_
      rintro r w1 ⟨q, hq, rfl, hg1, hs1⟩
      go_wp2_with fail
      go_roundw
      case rel => exact ⟨k + 1, q, _, _, by omega, rfl, by go_num, hq, hme.out, hmv.out, only_trans hg hg1, hs1⟩
      case measure => simp [intOf]; omega
    · have hkn : zs.drop k = [] := List.drop_eq_nil_of_le (by have := Hn.out; omega)
      rw [hkn] at hme hmv
      clear hkn
      go_wp2_with fail
      go_ret
      rw [hme.out, hmv.out]
      exact ⟨d, hd, rfl, hg, hst⟩

end Go.Proofs.YtgkiaonakiflbaaGreatDoor

/- Quotients in lowest terms; the contracts of ratio's lowest, sign, root. -/
namespace Go.Proofs.YtgkiaonakiflbaaGreatDoor
open Go.RowKit

/-- The divisor with the sign of the denominator. -/
def gS (N D : Int) : Int := if D < 0 then 0 - (Int.gcd N D : Int) else (Int.gcd N D : Int)
def lowN (N D : Int) : Int := N.fdiv (gS N D)
def lowD (N D : Int) : Int := D.fdiv (gS N D)

structure LowT (N D n d : Int) : Prop where
  pos : 0 < d
  cop : Int.gcd n d = 1
  num : N = n * gS N D
  den : D = d * gS N D
  ne : gS N D ≠ 0

theorem low_spec (N D : Int) (hD : D ≠ 0) : LowT N D (lowN N D) (lowD N D) := by
  have hG : 0 < Int.gcd N D := Int.gcd_pos_of_ne_zero_right _ hD
  have hg : gS N D = (Int.gcd N D : Int) ∨ gS N D = -(Int.gcd N D : Int) := by unfold gS; split <;> omega
  have hgne : gS N D ≠ 0 := by omega
  have hdN : gS N D ∣ N := by
    rcases hg with e | e
    · rw [e]; exact Int.gcd_dvd_left ..
    · rw [e]; exact Int.neg_dvd.2 (Int.gcd_dvd_left ..)
  have hdD : gS N D ∣ D := by
    rcases hg with e | e
    · rw [e]; exact Int.gcd_dvd_right ..
    · rw [e]; exact Int.neg_dvd.2 (Int.gcd_dvd_right ..)
  obtain ⟨n, hn⟩ := hdN
  obtain ⟨d, hd⟩ := hdD
  have e1 : lowN N D = n := (part_unique (x := N) (y := gS N D) (q := n) (r := 0) (by rw [Int.mul_comm n]; omega) (by omega)).1
  have e2 : lowD N D = d := (part_unique (x := D) (y := gS N D) (q := d) (r := 0) (by rw [Int.mul_comm d]; omega) (by omega)).1
  rw [e1, e2]
  have hcop : Int.gcd n d = 1 := by
    have h1 : Int.gcd (gS N D * n) (gS N D * d) = (gS N D).natAbs * Int.gcd n d := Int.gcd_mul_left ..
    rw [← hn, ← hd] at h1
    have h2 : (gS N D).natAbs = Int.gcd N D := by omega
    rw [h2] at h1
    have h3 : Int.gcd N D * 1 = Int.gcd N D * Int.gcd n d := by omega
    exact (Nat.eq_of_mul_eq_mul_left hG h3).symm
  have hpos : 0 < d := by
    have hs : (D < 0 ∧ gS N D < 0) ∨ (0 < D ∧ 0 < gS N D) := by
      rcases Int.lt_or_le D 0 with h | h
      · left; refine ⟨h, ?_⟩; unfold gS; rw [if_pos h]; omega
      · right; refine ⟨by omega, ?_⟩; unfold gS; rw [if_neg (by omega)]; omega
    rcases Int.lt_trichotomy d 0 with h | h | h
    · exfalso
      rcases hs with ⟨h1, h2⟩ | ⟨h1, h2⟩
      · have := Int.mul_pos_of_neg_of_neg h2 h; omega
      · have := Int.mul_neg_of_pos_of_neg h2 h; omega
    · exfalso; rw [h, Int.mul_zero] at hd; omega
    · exact h
  exact ⟨hpos, hcop, by rw [Int.mul_comm]; exact hn, by rw [Int.mul_comm]; exact hd, hgne⟩

theorem gS_wid {N D : Int} (hN : wid N ≤ 1024) (hD : wid D ≤ 1024) : wid (gS N D) ≤ 1024 := by
  have h := gcd_wid hN hD
  unfold gS
  split
  · rw [show (0 : Int) - (Int.gcd N D : Int) = -(Int.gcd N D : Int) by omega, wid_neg]; exact h
  · exact h

theorem quo_lim (a b : ByteArray) (x y : Int) (w : World) (hE : Env w) (ha : RI a x) (hb : RI b y) (hy : y ≠ 0) :
    Calls Tryz.prog 95 #[.string a, .string b] w (Lim (x.fdiv y) w) := by
  refine (whole_Quo a b x y w hE ha hb hy).mono ?_
  rintro e w' ⟨c, hc, rfl, hb⟩
  exact ⟨c, by rw [limS0 hc.le]; exact hc.is, ret_RSt (limE0 hc.le).symm, hb⟩
theorem gcd_lim (a b : ByteArray) (x y : Int) (w : World) (hE : Env w) (ha : RI a x) (hb : RI b y) :
    Calls Tryz.prog 97 #[.string a, .string b] w (Lim (Int.gcd x y : Int) w) := by
  refine (whole_Gcd a b x y w hE ha hb).mono ?_
  rintro e w' ⟨c, hc, rfl, hb⟩
  exact ⟨c, by rw [limS0 hc.le]; exact hc.is, ret_RSt (limE0 hc.le).symm, hb⟩

theorem minus_prefix {a : ByteArray} {z : Int} (h : IsI a z) : Lib.hasPrefix a.data.toList (⟨#[45]⟩ : ByteArray).data.toList = decide (z < 0) := by
  rw [← ByteArray.toList_eq, h.out]
  show ([45] : Bytes).isPrefixOf (Lib.itoa z) = _
  by_cases hz : z < 0
  · rw [itoa_neg hz, decide_eq_true hz]; simp [List.isPrefixOf]
  · rw [decide_eq_false hz]
    have hh : (Lib.itoa z).head? ≠ some 45 := fun e => hz ((itoa_head z).1 e)
    cases hl : Lib.itoa z with
    | nil => rfl
    | cons c t =>
      rw [hl] at hh
      simp only [List.isPrefixOf, Bool.and_true]
      rw [beq_eq_false_iff_ne]
      intro e; exact hh (by rw [← e]; rfl)

set_option maxRecDepth 100000 in
set_option maxHeartbeats 1000000 in
theorem sums_lowest (s : Nat) (N D : Int) (a b : ByteArray) (w : World) (hE : Env w) (hs : St w s 0) (ha : RI a N) (hb : RI b D) (hD : D ≠ 0) :
    Calls Tryz.prog 84 #[.pointer (some ⟨s, 0, none⟩), .string a, .string b] w fun r w' => ∃ c, RR c (lowN N D) (lowD N D) ∧ r = .returned (.string c) ∧ w.grownBy w' (some s) ∧ St w' s 0 := by
  have hl := low_spec N D hD
  have wg := gcd_wid ha.le hb.le
  have wgS := gS_wid ha.le hb.le
  have wn : wid (lowN N D) ≤ 1024 := Nat.le_trans (wid_mono (fdiv_wid hl.ne)) ha.le
  have wd : wid (lowD N D) ≤ 1024 := Nat.le_trans (wid_mono (fdiv_wid hl.ne)) hb.le
  have fin : ∀ (g : ByteArray) (w1 : World), RI g (gS N D) → w.grownBy w1 (some s) → St w1 s 0 → Env w1 := fun g w1 _ hg hs1 => hE.only2 hg hs1.far
  by_cases hneg : D < 0
  · have t1 : Hid (0 - (Int.gcd N D : Int) = gS N D) := by show _ = _; unfold gS; rw [if_pos hneg]
    have tp : decide (D < 0) = true := decide_eq_true hneg
    clear hneg
    go_enter Tryz.func84, Tryz.ntmps84
    go_wp2_with fail
    refine (sums_do 97 (by simp) s 0 _ a b _ hs (fun _ => gcd_lim a b N D _ hE ha hb)).mono ?_
    rintro r w1 ⟨g, hg, rfl, hg1, hs1⟩
    rw [dv_ok wg] at hg
    rw [de_ok wg] at hs1
    have hE1 := hE.only2 hg1 hs1.far
    go_wp2_with fail
    refine (Tryz.strings_HasPrefix b ⟨#[45]⟩ _).mono ?_
    rintro r w1' ⟨rfl, rfl⟩
    rw [minus_prefix hb.is]
    go_wp2_with fail
    refine (sums_sub s 0 0 _ ⟨#[48]⟩ g _ hE1 hs1 ⟨is_zero_text, by have := wid_zero; omega⟩ hg).mono ?_
    rintro r w2 ⟨g2, hg2, rfl, hgr2, hs2⟩
    rw [t1.out, dv_ok wgS] at hg2
    rw [t1.out, de_ok wgS] at hs2
    have hgr := only_trans hg1 hgr2
    have hE2 := hE.only2 hgr hs2.far
    have c2 := hs2.cell
    go_wp2_with fail
    refine (sums_do 95 (by simp) s 0 (lowN N D) a g2 _ hs2 (fun _ => quo_lim a g2 N _ _ hE2 ha hg2 hl.ne)).mono ?_
    rintro r w3 ⟨p, hp, rfl, hgr3, hs3⟩
    rw [dv_ok wn] at hp
    rw [de_ok wn] at hs3
    have hgr' := only_trans hgr hgr3
    have hE3 := hE.only2 hgr' hs3.far
    go_wp2_with fail
    refine (sums_do 95 (by simp) s 0 (lowD N D) b g2 _ hs3 (fun _ => quo_lim b g2 D _ _ hE3 hb hg2 hl.ne)).mono ?_
    rintro r w4 ⟨q, hq, rfl, hgr4, hs4⟩
    rw [dv_ok wd] at hq
    rw [de_ok wd] at hs4
    go_wp2_with fail
    refine (ratio_joined p q _ _ _ hp.is hq.is hp.size_le' hq.size_le').mono ?_
    rintro r w5 ⟨o, ho, rfl, rfl⟩
    go_wp2_with fail
    go_ret
    exact ⟨o, ⟨ho, hl.pos, hl.cop, wn, wd⟩, rfl, only_trans hgr' hgr4, hs4⟩
  · have t1 : Hid ((Int.gcd N D : Int) = gS N D) := by show _ = _; unfold gS; rw [if_neg hneg]
    have tp : decide (D < 0) = false := decide_eq_false hneg
    clear hneg
    go_enter Tryz.func84, Tryz.ntmps84
    go_wp2_with fail
    refine (sums_do 97 (by simp) s 0 _ a b _ hs (fun _ => gcd_lim a b N D _ hE ha hb)).mono ?_
    rintro r w1 ⟨g, hg, rfl, hg1, hs1⟩
    rw [dv_ok wg, t1.out] at hg
    rw [de_ok wg] at hs1
    have hE1 := hE.only2 hg1 hs1.far
    have c1 := hs1.cell
    go_wp2_with fail
    refine (Tryz.strings_HasPrefix b ⟨#[45]⟩ _).mono ?_
    rintro r w1' ⟨rfl, rfl⟩
    rw [minus_prefix hb.is]
    go_wp2_with fail
    refine (sums_do 95 (by simp) s 0 (lowN N D) a g _ hs1 (fun _ => quo_lim a g N _ _ hE1 ha hg hl.ne)).mono ?_
    rintro r w3 ⟨p, hp, rfl, hgr3, hs3⟩
    rw [dv_ok wn] at hp
    rw [de_ok wn] at hs3
    have hgr' := only_trans hg1 hgr3
    have hE3 := hE.only2 hgr' hs3.far
    go_wp2_with fail
    refine (sums_do 95 (by simp) s 0 (lowD N D) b g _ hs3 (fun _ => quo_lim b g D _ _ hE3 hb hg hl.ne)).mono ?_
    rintro r w4 ⟨q, hq, rfl, hgr4, hs4⟩
    rw [dv_ok wd] at hq
    rw [de_ok wd] at hs4
    go_wp2_with fail
    refine (ratio_joined p q _ _ _ hp.is hq.is hp.size_le' hq.size_le').mono ?_
    rintro r w5 ⟨o, ho, rfl, rfl⟩
    go_wp2_with fail
    go_ret
    exact ⟨o, ⟨ho, hl.pos, hl.cop, wn, wd⟩, rfl, only_trans hgr' hgr4, hs4⟩

/-- The sign behind no error. -/
def sg (e z : Int) : Int := if e = 0 then sgn z else 0
theorem sums_sign (s : Nat) (e z : Int) (a : ByteArray) (w : World) (hs : St w s e) (ha : RI a z) :
    Calls Tryz.prog 63 #[.pointer (some ⟨s, 0, none⟩), .string a] w fun r w' => r = .returned (.int .i64 (sg e z)) ∧ w.grownBy w' (some s) ∧ St w' s e := by
  have c := hs.cell
  by_cases he : e = 0
  · subst he
    have h1 : sg 0 z = sgn z := if_pos rfl
    rw [h1]
    go_enter Tryz.func63, Tryz.ntmps63
    go_wp2_with fail
    refine (whole_Sign a z _ ha).mono ?_
    rintro r w1 ⟨rfl, hb⟩
    have hs1 := hs.below hb
    have c1 := hs1.cell
    have f1 := hs1.frozen
    go_wp2_with fail
    go_ret
    exact ⟨rfl, only_set' hb _, hs1.set 0⟩
  · have h1 : sg e z = 0 := if_neg he
    rw [h1]
    have t1 : (e != 0) = true := by simp [he]
    clear he
    go_enter Tryz.func63, Tryz.ntmps63
    go_wp2_with fail
    go_ret
    exact ⟨rfl, World.grownBy.refl _ _, hs⟩

end Go.Proofs.YtgkiaonakiflbaaGreatDoor

/- The contracts of ratio's closures and of Compare. -/
namespace Go.Proofs.YtgkiaonakiflbaaGreatDoor
open Go.RowKit

/-- Texts of right integers. -/
def RIs : List ByteArray → List Int → Prop
  | [], [] => True
  | c :: cs, z :: zs => RI c z ∧ RIs cs zs
  | _, _ => False
theorem RIs.len : ∀ {ss : List ByteArray} {zs : List Int}, RIs ss zs → ss.length = zs.length
  | [], [], _ => rfl
  | _ :: _, _ :: _, h => by simp [RIs.len h.2]
theorem RIs.at : ∀ {ss : List ByteArray} {zs : List Int}, RIs ss zs → ∀ i (h : i < ss.length) (h' : i < zs.length), RI ss[i] zs[i]
  | _ :: _, _ :: _, h, 0, _, _ => h.1
  | _ :: cs, _ :: zs, h, i + 1, h1, h2 => RIs.at h.2 i (by simpa using h1) (by simpa using h2)

theorem St.alloc {w : World} {s : Nat} {e : Int} (h : St w s e) (o : Obj) : St (w.alloc o) s e := ⟨h.row.alloc o, h.far⟩

theorem Did.from {s : Nat} {e v : Int} {w w0 : World} {r : Ending} {w' : World} (h : Did s e v w r w') (hb : w0.grownBy w (some s)) : Did s e v w0 r w' := by
  obtain ⟨c, h1, h2, h3, h4⟩ := h
  exact ⟨c, h1, h2, only_trans hb h3, h4⟩

theorem mul_new (s : Nat) (e : Int) (ss : List ByteArray) (zs : List Int) (n : Nat) (T : TypeId) (w : World) (hE : Env w) (hs : St w s e) (hz : RIs ss zs) (hn : ss.length = n) (hn1 : n ≤ 4096) :
    Calls Tryz.prog 61 #[.pointer (some ⟨s, 0, none⟩), .slice (some ⟨w.heap.size, 0, none⟩) n n] (w.alloc (.cells (strs ss).toArray T)) (Did s (mulE e 1 zs) (mulV e 1 zs) w) := by
  refine (sums_mul s e w.heap.size 0 n n ss zs _ (hE.below ((Below.refl _ w).alloc (Nat.le_refl _) _)) (hs.alloc _) (by rw [← hz.len]; exact hn) hn hn1 hz.at (row_new w _ T) (by have := hs.lt; omega)).mono ?_
  intro r w' h
  exact h.from (only_alloc (World.grownBy.refl w (some s)) _)

/-- An error that is either none or too large. -/
def Two (e : Int) : Prop := e = 0 ∨ e = 11
theorem de_two {e z : Int} (h : Two e) : Two (de e z) := by
  rcases h with rfl | rfl
  · unfold de limE; rw [if_pos rfl]; split
    · exact .inl rfl
    · exact .inr rfl
  · rw [de_err (by omega)]; exact .inr rfl
theorem mulE_two : ∀ (l : List Int) {e v : Int}, Two e → Two (mulE e v l)
  | [], _, _, h => h
  | _ :: t, _, _, h => mulE_two t (de_two h)
theorem mulE_err : ∀ (l : List Int) (v : Int), mulE 11 v l = 11
  | [], _ => rfl
  | z :: t, v => by unfold mulE; rw [de_err (by omega)]; exact mulE_err t _

/-- A product of two numbers. -/
theorem mul2 {e x y : Int} (he : Two e) (hx : wid x ≤ 1024) : (e = 0 ∧ mulE e 1 [x, y] = 0 ∧ mulV e 1 [x, y] = x * y ∧ wid (x * y) ≤ 1024) ∨ (mulE e 1 [x, y] = 11 ∧ (e = 11 ∨ ¬ wid (x * y) ≤ 1024)) := by
  rcases he with rfl | rfl
  · by_cases h : wid (x * y) ≤ 1024
    · left
      refine ⟨rfl, ?_, ?_, h⟩
      · show de (de 0 (1 * x)) (dv 0 (1 * x) * y) = 0
        rw [Int.one_mul, de_ok hx, dv_ok hx, de_ok h]
      · show dv (de 0 (1 * x)) (dv 0 (1 * x) * y) = _
        rw [Int.one_mul, de_ok hx, dv_ok hx, dv_ok h]
    · right
      refine ⟨?_, .inr h⟩
      show de (de 0 (1 * x)) (dv 0 (1 * x) * y) = 11
      rw [Int.one_mul, de_ok hx, dv_ok hx, de_no h]
  · right; exact ⟨mulE_err _ _, .inl rfl⟩
theorem step2 {e z : Int} (he : Two e) : (e = 0 ∧ de e z = 0 ∧ dv e z = z ∧ wid z ≤ 1024) ∨ (de e z = 11 ∧ (e = 11 ∨ ¬ wid z ≤ 1024)) := by
  rcases he with rfl | rfl
  · by_cases h : wid z ≤ 1024
    · exact .inl ⟨rfl, de_ok h, dv_ok h, h⟩
    · exact .inr ⟨de_no h, .inr h⟩
  · exact .inr ⟨de_err (by omega), .inl rfl⟩

/-- A numerator and a denominator, or an error. -/
def Res (l : List Int) (N D e vN vD : Int) : Prop := (e = 0 ∧ vN = N ∧ vD = D ∧ ∀ z ∈ l, wid z ≤ 1024) ∨ (e = 11 ∧ ∃ z ∈ l, ¬ wid z ≤ 1024)
/-- What a closure leaves. -/
def Terms (l : List Int) (N D : Int) (s : Nat) (w : World) (r : Ending) (w' : World) : Prop :=
  ∃ c d e vN vD, RI c vN ∧ RI d vD ∧ r = .returned (.tuple #[.string c, .string d]) ∧ w.grownBy w' (some s) ∧ St w' s e ∧ Res l N D e vN vD

theorem res_four {g : Int → Int → Int} {E1 V1 E2 V2 E3 V3 E4 V4 X Y D : Int} (h1 : ((0 : Int) = 0 ∧ E1 = 0 ∧ V1 = X ∧ wid X ≤ 1024) ∨ (E1 = 11 ∧ ((0 : Int) = 11 ∨ ¬ wid X ≤ 1024)))
    (h2 : (E1 = 0 ∧ E2 = 0 ∧ V2 = Y ∧ wid Y ≤ 1024) ∨ (E2 = 11 ∧ (E1 = 11 ∨ ¬ wid Y ≤ 1024)))
    (h3 : (E2 = 0 ∧ E3 = 0 ∧ V3 = g V1 V2 ∧ wid (g V1 V2) ≤ 1024) ∨ (E3 = 11 ∧ (E2 = 11 ∨ ¬ wid (g V1 V2) ≤ 1024)))
    (h4 : (E3 = 0 ∧ E4 = 0 ∧ V4 = D ∧ wid D ≤ 1024) ∨ (E4 = 11 ∧ (E3 = 11 ∨ ¬ wid D ≤ 1024))) :
    Res [X, Y, g X Y, D] (g X Y) D E4 V3 V4 := by
  rcases h1 with ⟨_, h1, rfl, w1⟩ | ⟨h1, h1'⟩
  · rcases h2 with ⟨_, h2, rfl, w2⟩ | ⟨h2, h2'⟩
    · rcases h3 with ⟨_, h3, rfl, w3⟩ | ⟨h3, h3'⟩
      · rcases h4 with ⟨_, h4, rfl, w4⟩ | ⟨h4, h4'⟩
        · left; exact ⟨h4, rfl, rfl, by simp [w1, w2, w3, w4]⟩
        · right; exact ⟨h4, D, by simp, by omega⟩
      · right
        refine ⟨by omega, g V1 V2, by simp, ?_⟩
        rcases h3' with h | h
        · omega
        · exact h
    · right; exact ⟨by omega, Y, by simp, by omega⟩
  · right; exact ⟨by omega, X, by simp, by omega⟩
theorem res_two {E1 V1 E2 V2 X D : Int} (h1 : ((0 : Int) = 0 ∧ E1 = 0 ∧ V1 = X ∧ wid X ≤ 1024) ∨ (E1 = 11 ∧ ((0 : Int) = 11 ∨ ¬ wid X ≤ 1024)))
    (h2 : (E1 = 0 ∧ E2 = 0 ∧ V2 = D ∧ wid D ≤ 1024) ∨ (E2 = 11 ∧ (E1 = 11 ∨ ¬ wid D ≤ 1024))) :
    Res [X, D] X D E2 V1 V2 := by
  rcases h1 with ⟨_, h1, rfl, w1⟩ | ⟨h1, h1'⟩
  · rcases h2 with ⟨_, h2, rfl, w2⟩ | ⟨h2, h2'⟩
    · left; exact ⟨h2, rfl, rfl, by simp [w1, w2]⟩
    · right; exact ⟨h2, D, by simp, by omega⟩
  · right; exact ⟨by omega, X, by simp, by omega⟩

set_option maxHeartbeats 1000000 in
theorem add_terms (s : Nat) (n p m q : Int) (cn cp cm cq : ByteArray) (w : World) (hE : Env w) (hs : St w s 0) (hn : RI cn n) (hp : RI cp p) (hm : RI cm m) (hq : RI cq q) :
    Calls Tryz.prog 68 #[.pointer (some ⟨s, 0, none⟩), .string cn, .string cp, .string cm, .string cq] w (Terms [n * q, m * p, n * q + m * p, p * q] (n * q + m * p) (p * q) s w) := by
  go_enter Tryz.func68, Tryz.ntmps68
  go_wp2_with fail
  refine (mul_new s 0 [cn, cq] [n, q] 2 _ _ hE hs ⟨hn, hq, trivial⟩ rfl (by omega)).mono ?_
  rintro r w1 ⟨c1, hc1, rfl, hg1, hs1⟩
  have hE1 := hE.only2 hg1 hs1.far
  go_wp2_with fail
  refine (mul_new s _ [cm, cp] [m, p] 2 _ _ hE1 hs1 ⟨hm, hp, trivial⟩ rfl (by omega)).mono ?_
  rintro r w2 ⟨c2, hc2, rfl, hg2, hs2⟩
  have hE2 := hE1.only2 hg2 hs2.far
  go_wp2_with fail
  refine (sums_add s _ _ _ c1 c2 _ hE2 hs2 hc1 hc2).mono ?_
  rintro r w3 ⟨c3, hc3, rfl, hg3, hs3⟩
  have hE3 := hE2.only2 hg3 hs3.far
  go_wp2_with fail
  refine (mul_new s _ [cp, cq] [p, q] 2 _ _ hE3 hs3 ⟨hp, hq, trivial⟩ rfl (by omega)).mono ?_
  rintro r w4 ⟨c4, hc4, rfl, hg4, hs4⟩
  go_wp2_with fail
  go_ret2
  refine ⟨c3, c4, _, _, _, hc3, hc4, rfl, only_trans (only_trans (only_trans hg1 hg2) hg3) hg4, hs4, ?_⟩
  clear hc1 hc2 hc3 hc4 hs1 hs2 hs3 hs4
  have a1 := mul2 (y := q) (.inl rfl) hn.le
  have a2 := mul2 (y := p) (mulE_two [n, q] (v := 1) (.inl rfl)) hm.le
  have a3 := step2 (z := mulV 0 1 [n, q] + mulV (mulE 0 1 [n, q]) 1 [m, p]) (mulE_two [m, p] (v := 1) (mulE_two [n, q] (v := 1) (.inl rfl)))
  have a4 := mul2 (y := q) (de_two (z := mulV 0 1 [n, q] + mulV (mulE 0 1 [n, q]) 1 [m, p]) (mulE_two [m, p] (v := 1) (mulE_two [n, q] (v := 1) (.inl rfl)))) hp.le
  exact res_four (g := fun a b => a + b) a1 a2 a3 a4

set_option maxHeartbeats 1000000 in
theorem sub_terms (s : Nat) (n p m q : Int) (cn cp cm cq : ByteArray) (w : World) (hE : Env w) (hs : St w s 0) (hn : RI cn n) (hp : RI cp p) (hm : RI cm m) (hq : RI cq q) :
    Calls Tryz.prog 74 #[.pointer (some ⟨s, 0, none⟩), .string cn, .string cp, .string cm, .string cq] w (Terms [n * q, m * p, n * q - m * p, p * q] (n * q - m * p) (p * q) s w) := by
  go_enter Tryz.func74, Tryz.ntmps74
  go_wp2_with fail
  refine (mul_new s 0 [cn, cq] [n, q] 2 _ _ hE hs ⟨hn, hq, trivial⟩ rfl (by omega)).mono ?_
  rintro r w1 ⟨c1, hc1, rfl, hg1, hs1⟩
  have hE1 := hE.only2 hg1 hs1.far
  go_wp2_with fail
  refine (mul_new s _ [cm, cp] [m, p] 2 _ _ hE1 hs1 ⟨hm, hp, trivial⟩ rfl (by omega)).mono ?_
  rintro r w2 ⟨c2, hc2, rfl, hg2, hs2⟩
  have hE2 := hE1.only2 hg2 hs2.far
  go_wp2_with fail
  refine (sums_sub s _ _ _ c1 c2 _ hE2 hs2 hc1 hc2).mono ?_
  rintro r w3 ⟨c3, hc3, rfl, hg3, hs3⟩
  have hE3 := hE2.only2 hg3 hs3.far
  go_wp2_with fail
  refine (mul_new s _ [cp, cq] [p, q] 2 _ _ hE3 hs3 ⟨hp, hq, trivial⟩ rfl (by omega)).mono ?_
  rintro r w4 ⟨c4, hc4, rfl, hg4, hs4⟩
  go_wp2_with fail
  go_ret2
  refine ⟨c3, c4, _, _, _, hc3, hc4, rfl, only_trans (only_trans (only_trans hg1 hg2) hg3) hg4, hs4, ?_⟩
  clear hc1 hc2 hc3 hc4 hs1 hs2 hs3 hs4
  have a1 := mul2 (y := q) (.inl rfl) hn.le
  have a2 := mul2 (y := p) (mulE_two [n, q] (v := 1) (.inl rfl)) hm.le
  have a3 := step2 (z := mulV 0 1 [n, q] - mulV (mulE 0 1 [n, q]) 1 [m, p]) (mulE_two [m, p] (v := 1) (mulE_two [n, q] (v := 1) (.inl rfl)))
  have a4 := mul2 (y := q) (de_two (z := mulV 0 1 [n, q] - mulV (mulE 0 1 [n, q]) 1 [m, p]) (mulE_two [m, p] (v := 1) (mulE_two [n, q] (v := 1) (.inl rfl)))) hp.le
  exact res_four (g := fun a b => a - b) a1 a2 a3 a4

set_option maxHeartbeats 1000000 in
theorem mul_terms (s : Nat) (n p m q : Int) (cn cp cm cq : ByteArray) (w : World) (hE : Env w) (hs : St w s 0) (hn : RI cn n) (hp : RI cp p) (hm : RI cm m) (hq : RI cq q) :
    Calls Tryz.prog 77 #[.pointer (some ⟨s, 0, none⟩), .string cn, .string cp, .string cm, .string cq] w (Terms [n * m, p * q] (n * m) (p * q) s w) := by
  go_enter Tryz.func77, Tryz.ntmps77
  go_wp2_with fail
  refine (mul_new s 0 [cn, cm] [n, m] 2 _ _ hE hs ⟨hn, hm, trivial⟩ rfl (by omega)).mono ?_
  rintro r w1 ⟨c1, hc1, rfl, hg1, hs1⟩
  have hE1 := hE.only2 hg1 hs1.far
  go_wp2_with fail
  refine (mul_new s _ [cp, cq] [p, q] 2 _ _ hE1 hs1 ⟨hp, hq, trivial⟩ rfl (by omega)).mono ?_
  rintro r w2 ⟨c2, hc2, rfl, hg2, hs2⟩
  go_wp2_with fail
  go_ret2
  refine ⟨c1, c2, _, _, _, hc1, hc2, rfl, only_trans hg1 hg2, hs2, ?_⟩
  exact res_two (mul2 (y := m) (.inl rfl) hn.le) (mul2 (y := q) (mulE_two [n, m] (v := 1) (.inl rfl)) hp.le)

set_option maxHeartbeats 1000000 in
theorem div_terms (s : Nat) (n p m q : Int) (cn cp cm cq : ByteArray) (w : World) (hE : Env w) (hs : St w s 0) (hn : RI cn n) (hp : RI cp p) (hm : RI cm m) (hq : RI cq q) :
    Calls Tryz.prog 79 #[.pointer (some ⟨s, 0, none⟩), .string cn, .string cp, .string cm, .string cq] w (Terms [n * q, p * m] (n * q) (p * m) s w) := by
  go_enter Tryz.func79, Tryz.ntmps79
  go_wp2_with fail
  refine (mul_new s 0 [cn, cq] [n, q] 2 _ _ hE hs ⟨hn, hq, trivial⟩ rfl (by omega)).mono ?_
  rintro r w1 ⟨c1, hc1, rfl, hg1, hs1⟩
  have hE1 := hE.only2 hg1 hs1.far
  go_wp2_with fail
  refine (mul_new s _ [cp, cm] [p, m] 2 _ _ hE1 hs1 ⟨hp, hm, trivial⟩ rfl (by omega)).mono ?_
  rintro r w2 ⟨c2, hc2, rfl, hg2, hs2⟩
  go_wp2_with fail
  go_ret2
  refine ⟨c1, c2, _, _, _, hc1, hc2, rfl, only_trans hg1 hg2, hs2, ?_⟩
  exact res_two (mul2 (y := q) (.inl rfl) hn.le) (mul2 (y := m) (mulE_two [n, q] (v := 1) (.inl rfl)) hp.le)

end Go.Proofs.YtgkiaonakiflbaaGreatDoor
