/- K6: the texts Qg Qh Qi Qj Qk, joined. -/
import Derived.Test.YtgkiaonakiflbaaGreatDoorK5
/- The contracts of ratio's made, Add, Sub, Mul, Div, Compare. -/
namespace Go.Proofs.YtgkiaonakiflbaaGreatDoor
open Go.RowKit

theorem cut_right (a : ByteArray) (n p : Int) (w : World) (hE : Env w) (h : RR a n p) :
    Calls Tryz.prog 60 #[.string a] w fun e w' => ∃ c d, RI c n ∧ RI d p ∧ e = .returned (.tuple #[.string c, .string d, .bool (decide (p ≠ 1))]) ∧ ∃ k, w' = w.drewN k := by
  refine (ratio_cut a w hE (by have := h.size; omega)).mono ?_
  rintro e w' ⟨c, d, hc, hd, rfl, k, rfl⟩
  rw [h.text, cutN_rtext] at hc
  rw [h.text, cutD_rtext] at hd
  exact ⟨c, d, ⟨hc, h.wn⟩, ⟨hd, h.wd⟩, by rw [h.text, cutW_rtext], k, rfl⟩

theorem St.new {w : World} (hE : Env w) : St (w.alloc (.cells #[.int .i64 0] 90)) w.heap.size 0 := by
  refine ⟨⟨_, heap_alloc_new w _, rfl, fun i hi => ?_⟩, hE.far (Nat.le_refl _)⟩
  obtain rfl : i = 0 := by omega
  rfl

/-- What made leaves, of right numbers. -/
def MadeR (l : List Int) (N D : Int) (w : World) (r : Ending) (w' : World) : Prop :=
  Below w.heap.size w w' ∧ (((∃ z ∈ l, ¬ wid z ≤ 1024) ∧ r = .returned (.tuple #[.string ⟨#[]⟩, .int .i64 11])) ∨
    ((∀ z ∈ l, wid z ≤ 1024) ∧ D = 0 ∧ r = .returned (.tuple #[.string ⟨#[]⟩, .int .i64 10])) ∨
    ((∀ z ∈ l, wid z ≤ 1024) ∧ D ≠ 0 ∧ ∃ c, RR c (lowN N D) (lowD N D) ∧ r = .returned (.tuple #[.string c, .int .i64 0])))

theorem first2 {a b : ByteArray} {n p m q : Int} (ha : RR a n p) (hb : RR b m q) : firstErr chkR [a, b] = 0 := by
  unfold firstErr; rw [if_pos ha.chk]; unfold firstErr; rw [if_pos hb.chk]; rfl

set_option maxRecDepth 100000 in
set_option maxHeartbeats 2000000 in
theorem made_right (F : Nat) (hF : F = 68 ∨ F = 74 ∨ F = 77 ∨ F = 79) (l : List Int) (N D : Int) (a b : ByteArray) (n p m q : Int) (w : World) (hE : Env w) (ha : RR a n p) (hb : RR b m q)
    (hof : ∀ (s : Nat) (cn cp cm cq : ByteArray) (w : World), Env w → St w s 0 → RI cn n → RI cp p → RI cm m → RI cq q → Calls Tryz.prog F #[.pointer (some ⟨s, 0, none⟩), .string cn, .string cp, .string cm, .string cq] w (Terms l N D s w)) :
    Calls Tryz.prog 67 #[.string a, .string b, .func (.func F) #[] #[]] w (MadeR l N D w) := by
  have HOF := Lib.hid hof; clear hof
  have hf := first2 ha hb
  have HFit : FitsR [a, b] := by
    intro s hs
    rcases List.mem_cons.1 hs with rfl | hs
    · have := ha.size; omega
    · rcases List.mem_cons.1 hs with rfl | hs
      · have := hb.size; omega
      · cases hs
  rcases hF with rfl | rfl | rfl | rfl
  all_goals
    go_enter Tryz.func67, Tryz.ntmps67
    go_wp2_with fail
    refine (checks_new [a, b] _ _ 2 rfl hE (by omega) HFit).mono ?_
    rintro e w1 ⟨rfl, hb1⟩
    rw [hf]
    have hE1 := hE.below hb1
    go_wp2_with fail
    refine (cut_right a n p _ hE1 ha).mono ?_
    rintro e w' ⟨cn, cp, hn, hp, rfl, k1, rfl⟩
    go_wp2_with fail
    refine (cut_right b m q _ (by exact ⟨hE1.tab, hE1.mx⟩) hb).mono ?_
    rintro e w' ⟨cm, cq, hm, hq, rfl, k2, rfl⟩
    have hB2 : Below w.heap.size w ((w1.drewN k1).drewN k2) := below_drewN (below_drewN hb1 k1) k2
    have hE2 := hE.below hB2
    generalize (w1.drewN k1).drewN k2 = w2 at *
    go_wp2_with fail
    have hS := St.new hE2
    have hB3 : Below w.heap.size w (w2.alloc (.cells #[.int .i64 0] 90)) := hB2.alloc hB2.size _
    have hE3 := hE.below hB3
    have hsz := hB2.size
    generalize w2.alloc (.cells #[.int .i64 0] 90) = w3 at *
    generalize w2.heap.size = s at *
    refine (HOF.out s cn cp cm cq _ hE3 hS hn hp hm hq).mono ?_
    rintro r w4 ⟨c, d, e, vN, vD, hc, hd, rfl, hg4, hs4, hres⟩
    have hB4 := only_new hB3 hg4 hB3.size hsz
    have hE4 := hE.below hB4
    have c4 := hs4.cell
    rcases hres with ⟨rfl, rfl, rfl, hall⟩ | ⟨rfl, hex⟩
    · have HA := Lib.hid hall; clear hall
      by_cases hD : vD = 0
      · have g0 := hd.is.is_zero hD
        have HD := Lib.hid hD; clear hD
        go_wp2_with fail
        go_ret2
        exact ⟨hB4, .inr (.inl ⟨HA.out, HD.out, rfl⟩)⟩
      · have g0 := hd.is.not_zero hD
        go_wp2_with fail
        refine (sums_lowest s vN vD c d _ hE4 hs4 hc hd hD).mono ?_
        rintro r w5 ⟨o, ho, rfl, hg5, hs5⟩
        have hB5 := only_new hB4 hg5 hB4.size hsz
        have c5 := hs5.cell
        go_wp2_with fail
        go_quiet (fail)
        go_wp2_with fail
        go_ret2
        exact ⟨below_drewN hB5 _, .inr (.inr ⟨HA.out, hD, o, ho, rfl⟩)⟩
    · go_wp2_with fail
      go_quiet (fail)
      go_wp2_with fail
      go_ret2
      exact ⟨below_drewN hB4 _, .inl ⟨hex, rfl⟩⟩

theorem made_error (F : Nat) (a b : ByteArray) (e0 : Int) (w : World) (hE : Env w) (h1 : a.size < 4294967281) (h2 : b.size < 4294967281) (he : firstErr chkR [a, b] = e0) (hne : e0 ≠ 0) :
    Calls Tryz.prog 67 #[.string a, .string b, .func (.func F) #[] #[]] w fun r w' => r = .returned (.tuple #[.string ⟨#[]⟩, .int .i64 e0]) ∧ Below w.heap.size w w' := by
  have HFit : FitsR [a, b] := by
    intro s hs
    rcases List.mem_cons.1 hs with rfl | hs
    · exact h1
    · rcases List.mem_cons.1 hs with rfl | hs
      · exact h2
      · cases hs
  have t1 : (e0 != 0) = true := by simp [hne]
  have HE := Lib.hid he; clear he
  go_enter Tryz.func67, Tryz.ntmps67
  go_wp2_with fail
  refine (checks_new [a, b] _ _ 2 rfl hE (by omega) HFit).mono ?_
  rintro e w1 ⟨rfl, hb1⟩
  rw [HE.out]
  go_wp2_with fail
  go_ret2
  exact ⟨rfl, hb1⟩

/-- The first error of two texts. -/
def chkR2 (a b : Bytes) : Int := if chkR a = 0 then chkR b else chkR a
theorem first_two (a b : ByteArray) : firstErr chkR [a, b] = chkR2 a.toList b.toList := by
  unfold firstErr chkR2
  split
  · unfold firstErr
    split
    · rename_i h; rw [h]; rfl
    · rfl
  · rfl

/-- What Add, Sub, Mul leave. -/
def OpR (l : Int → Int → Int → Int → List Int) (N D : Int → Int → Int → Int → Int) (a b : ByteArray) (w : World) (r : Ending) (w' : World) : Prop :=
  (chkR2 a.toList b.toList ≠ 0 ∧ r = .returned (.tuple #[.string ⟨#[]⟩, .int .i64 (chkR2 a.toList b.toList)]) ∧ Below w.heap.size w w') ∨
  (∃ n p m q, RR a n p ∧ RR b m q ∧ MadeR (l n p m q) (N n p m q) (D n p m q) w r w')

theorem ratio_Add (a b : ByteArray) (w : World) (hE : Env w) (h1 : a.size < 4294967281) (h2 : b.size < 4294967281) :
    Calls Tryz.prog 19 #[.string a, .string b] w (OpR (fun n p m q => [n * q, m * p, n * q + m * p, p * q]) (fun n p m q => n * q + m * p) (fun _ p _ q => p * q) a b w) := by
  by_cases hc : chkR2 a.toList b.toList = 0
  · have ha : chkR a.toList = 0 := by unfold chkR2 at hc; split at hc <;> assumption
    have hb : chkR b.toList = 0 := by unfold chkR2 at hc; rw [if_pos ha] at hc; exact hc
    have ra := RR.of_chk ha
    have rb := RR.of_chk hb
    generalize num (cutN a.toList) = n at *
    generalize num (cutD a.toList) = p at *
    generalize num (cutN b.toList) = m at *
    generalize num (cutD b.toList) = q at *
    clear hc
    go_enter Tryz.func19, Tryz.ntmps19
    go_wp2_with fail
    refine (made_right 68 (by simp) _ _ _ a b n p m q _ hE ra rb (fun s cn cp cm cq w => add_terms s n p m q cn cp cm cq w)).mono ?_
    rintro r w1 ⟨hB, h | h | ⟨h3, h4, c, hc, h5⟩⟩
    · obtain ⟨h3, rfl⟩ := h
      go_wp2_with fail
      go_ret2
      exact .inr ⟨n, p, m, q, ra, rb, hB, .inl ⟨h3, rfl⟩⟩
    · obtain ⟨h3, h4, rfl⟩ := h
      have H4 := Lib.hid h4; clear h4
      go_wp2_with fail
      go_ret2
      exact .inr ⟨n, p, m, q, ra, rb, hB, .inr (.inl ⟨h3, H4.out, rfl⟩)⟩
    · subst h5
      go_wp2_with fail
      go_ret2
      exact .inr ⟨n, p, m, q, ra, rb, hB, .inr (.inr ⟨h3, h4, c, hc, rfl⟩)⟩
  · go_enter Tryz.func19, Tryz.ntmps19
    go_wp2_with fail
    refine (made_error 68 a b _ _ hE h1 h2 (first_two a b) hc).mono ?_
    rintro r w1 ⟨rfl, hb⟩
    go_wp2_with fail
    go_ret2
    exact .inl ⟨hc, rfl, hb⟩

end Go.Proofs.YtgkiaonakiflbaaGreatDoor

/- The contracts of ratio's Sub, Mul, Div, Compare, Parts, Sign, Neg, Floor, Make, Of, Whole. -/
namespace Go.Proofs.YtgkiaonakiflbaaGreatDoor
open Go.RowKit

theorem ratio_Sub (a b : ByteArray) (w : World) (hE : Env w) (h1 : a.size < 4294967281) (h2 : b.size < 4294967281) :
    Calls Tryz.prog 21 #[.string a, .string b] w (OpR (fun n p m q => [n * q, m * p, n * q - m * p, p * q]) (fun n p m q => n * q - m * p) (fun _ p _ q => p * q) a b w) := by
  by_cases hc : chkR2 a.toList b.toList = 0
  · have ha : chkR a.toList = 0 := by unfold chkR2 at hc; split at hc <;> assumption
    have hb : chkR b.toList = 0 := by unfold chkR2 at hc; rw [if_pos ha] at hc; exact hc
    have ra := RR.of_chk ha
    have rb := RR.of_chk hb
    generalize num (cutN a.toList) = n at *
    generalize num (cutD a.toList) = p at *
    generalize num (cutN b.toList) = m at *
    generalize num (cutD b.toList) = q at *
    clear hc
    go_enter Tryz.func21, Tryz.ntmps21
    go_wp2_with fail
    refine (made_right 74 (by simp) _ _ _ a b n p m q _ hE ra rb (fun s cn cp cm cq w => sub_terms s n p m q cn cp cm cq w)).mono ?_
    rintro r w1 ⟨hB, h | h | ⟨h3, h4, c, hc, h5⟩⟩
    · obtain ⟨h3, rfl⟩ := h
      go_wp2_with fail
      go_ret2
      exact .inr ⟨n, p, m, q, ra, rb, hB, .inl ⟨h3, rfl⟩⟩
    · obtain ⟨h3, h4, rfl⟩ := h
      have H4 := Lib.hid h4; clear h4
      go_wp2_with fail
      go_ret2
      exact .inr ⟨n, p, m, q, ra, rb, hB, .inr (.inl ⟨h3, H4.out, rfl⟩)⟩
    · subst h5
      go_wp2_with fail
      go_ret2
      exact .inr ⟨n, p, m, q, ra, rb, hB, .inr (.inr ⟨h3, h4, c, hc, rfl⟩)⟩
  · go_enter Tryz.func21, Tryz.ntmps21
    go_wp2_with fail
    refine (made_error 74 a b _ _ hE h1 h2 (first_two a b) hc).mono ?_
    rintro r w1 ⟨rfl, hb⟩
    go_wp2_with fail
    go_ret2
    exact .inl ⟨hc, rfl, hb⟩

theorem ratio_Mul (a b : ByteArray) (w : World) (hE : Env w) (h1 : a.size < 4294967281) (h2 : b.size < 4294967281) :
    Calls Tryz.prog 23 #[.string a, .string b] w (OpR (fun n p m q => [n * m, p * q]) (fun n _ m _ => n * m) (fun _ p _ q => p * q) a b w) := by
  by_cases hc : chkR2 a.toList b.toList = 0
  · have ha : chkR a.toList = 0 := by unfold chkR2 at hc; split at hc <;> assumption
    have hb : chkR b.toList = 0 := by unfold chkR2 at hc; rw [if_pos ha] at hc; exact hc
    have ra := RR.of_chk ha
    have rb := RR.of_chk hb
    generalize num (cutN a.toList) = n at *
    generalize num (cutD a.toList) = p at *
    generalize num (cutN b.toList) = m at *
    generalize num (cutD b.toList) = q at *
    clear hc
    go_enter Tryz.func23, Tryz.ntmps23
    go_wp2_with fail
    refine (made_right 77 (by simp) _ _ _ a b n p m q _ hE ra rb (fun s cn cp cm cq w => mul_terms s n p m q cn cp cm cq w)).mono ?_
    rintro r w1 ⟨hB, h | h | ⟨h3, h4, c, hc, h5⟩⟩
    · obtain ⟨h3, rfl⟩ := h
      go_wp2_with fail
      go_ret2
      exact .inr ⟨n, p, m, q, ra, rb, hB, .inl ⟨h3, rfl⟩⟩
    · obtain ⟨h3, h4, rfl⟩ := h
      have H4 := Lib.hid h4; clear h4
      go_wp2_with fail
      go_ret2
      exact .inr ⟨n, p, m, q, ra, rb, hB, .inr (.inl ⟨h3, H4.out, rfl⟩)⟩
    · subst h5
      go_wp2_with fail
      go_ret2
      exact .inr ⟨n, p, m, q, ra, rb, hB, .inr (.inr ⟨h3, h4, c, hc, rfl⟩)⟩
  · go_enter Tryz.func23, Tryz.ntmps23
    go_wp2_with fail
    refine (made_error 77 a b _ _ hE h1 h2 (first_two a b) hc).mono ?_
    rintro r w1 ⟨rfl, hb⟩
    go_wp2_with fail
    go_ret2
    exact .inl ⟨hc, rfl, hb⟩

/-- The result of an operation on right numbers. -/
def opRes (l : List Int) (N D : Int) : Bytes × Int := if l.all (fun z => decide (wid z ≤ 1024)) = true then (if D = 0 then ([], 10) else (rtext (lowN N D) (lowD N D), 0)) else ([], 11)
def numOf (s : Bytes) : Int := num (cutN s)
def denOf (s : Bytes) : Int := num (cutD s)
theorem RR.numOf {c : ByteArray} {n d : Int} (h : RR c n d) : numOf c.toList = n := by unfold Go.Proofs.YtgkiaonakiflbaaGreatDoor.numOf; rw [h.text, cutN_rtext, num_itoa]
theorem RR.denOf {c : ByteArray} {n d : Int} (h : RR c n d) : denOf c.toList = d := by unfold Go.Proofs.YtgkiaonakiflbaaGreatDoor.denOf; rw [h.text, cutD_rtext, num_itoa]

/-- A text and an error that a function of the inputs says. -/
def OpS (F : Bytes × Int) (w : World) (r : Ending) (w' : World) : Prop := ∃ c, Is c F.1 ∧ r = .returned (.tuple #[.string c, .int .i64 F.2]) ∧ Below w.heap.size w w'
def arith (l : Int → Int → Int → Int → List Int) (N D : Int → Int → Int → Int → Int) (a b : Bytes) : Bytes × Int :=
  if chkR2 a b = 0 then opRes (l (numOf a) (denOf a) (numOf b) (denOf b)) (N (numOf a) (denOf a) (numOf b) (denOf b)) (D (numOf a) (denOf a) (numOf b) (denOf b)) else ([], chkR2 a b)

theorem MadeR.opS {l : List Int} {N D : Int} {w : World} {r : Ending} {w' : World} (h : MadeR l N D w r w') : OpS (opRes l N D) w r w' := by
  obtain ⟨hB, h | h | ⟨h3, h4, c, hc, h5⟩⟩ := h
  · obtain ⟨⟨z, hz, hw⟩, rfl⟩ := h
    have : l.all (fun z => decide (wid z ≤ 1024)) = false := by
      rw [Bool.eq_false_iff]; intro ha
      rw [List.all_eq_true] at ha
      exact hw (by simpa using ha z hz)
    unfold opRes; rw [this]
    exact ⟨_, toList_lit [], rfl, hB⟩
  · obtain ⟨h3, h4, rfl⟩ := h
    have : l.all (fun z => decide (wid z ≤ 1024)) = true := by rw [List.all_eq_true]; intro z hz; simpa using h3 z hz
    unfold opRes; rw [this, if_pos rfl, if_pos h4]
    exact ⟨_, toList_lit [], rfl, hB⟩
  · subst h5
    have : l.all (fun z => decide (wid z ≤ 1024)) = true := by rw [List.all_eq_true]; intro z hz; simpa using h3 z hz
    unfold opRes; rw [this, if_pos rfl, if_neg h4]
    exact ⟨c, hc.text, rfl, hB⟩

theorem chkR2_zero {a b : ByteArray} {n p m q : Int} (ha : RR a n p) (hb : RR b m q) : chkR2 a.toList b.toList = 0 := by
  unfold chkR2; rw [if_pos ha.chk, hb.chk]
theorem OpR.opS {l : Int → Int → Int → Int → List Int} {N D : Int → Int → Int → Int → Int} {a b : ByteArray} {w : World} {r : Ending} {w' : World} (h : OpR l N D a b w r w') : OpS (arith l N D a.toList b.toList) w r w' := by
  rcases h with ⟨h1, rfl, hB⟩ | ⟨n, p, m, q, ha, hb, h⟩
  · unfold arith; rw [if_neg h1]
    exact ⟨_, toList_lit [], rfl, hB⟩
  · unfold arith
    rw [if_pos (chkR2_zero ha hb), ha.numOf, ha.denOf, hb.numOf, hb.denOf]
    exact h.opS

theorem div_zero_text {b : ByteArray} {m q : Int} (hb : RR b m q) : (b.toList == [48]) = decide (m = 0) := by
  by_cases h : m = 0
  · rw [decide_eq_true h]
    have hq : q = 1 := by
      have h1 := hb.cop
      rw [h, Int.gcd_zero_left] at h1
      have := hb.pos; omega
    rw [hb.text, h, hq, rtext_one, itoa_zero]; rfl
  · rw [decide_eq_false h, beq_eq_false_iff_ne]
    intro e
    have h2 := hb.numOf
    unfold Go.Proofs.YtgkiaonakiflbaaGreatDoor.numOf at h2
    rw [e] at h2
    rw [show cutN [48] = [48] from by unfold cutN; rw [slashI_none [48] (by decide)]; rfl, ← itoa_zero, num_itoa] at h2
    exact h h2.symm

/-- The result of Div. -/
def divR (a b : Bytes) : Bytes × Int :=
  if chkR2 a b = 0 then (if numOf b = 0 then ([], 10) else opRes [numOf a * denOf b, denOf a * numOf b] (numOf a * denOf b) (denOf a * numOf b)) else ([], chkR2 a b)

set_option maxHeartbeats 1000000 in
theorem ratio_Div (a b : ByteArray) (w : World) (hE : Env w) (h1 : a.size < 4294967281) (h2 : b.size < 4294967281) :
    Calls Tryz.prog 25 #[.string a, .string b] w (OpS (divR a.toList b.toList) w) := by
  have HFit : FitsR [a, b] := by
    intro s hs
    rcases List.mem_cons.1 hs with rfl | hs
    · exact h1
    · rcases List.mem_cons.1 hs with rfl | hs
      · exact h2
      · cases hs
  by_cases hc : chkR2 a.toList b.toList = 0
  · have ha : chkR a.toList = 0 := by unfold chkR2 at hc; split at hc <;> assumption
    have hb : chkR b.toList = 0 := by unfold chkR2 at hc; rw [if_pos ha] at hc; exact hc
    have ra := RR.of_chk ha
    have rb := RR.of_chk hb
    have hf := first2 ra rb
    have hgoal : divR a.toList b.toList = if numOf b.toList = 0 then ([], 10) else opRes [numOf a.toList * denOf b.toList, denOf a.toList * numOf b.toList] (numOf a.toList * denOf b.toList) (denOf a.toList * numOf b.toList) := by unfold divR; rw [if_pos hc]
    rw [ra.numOf, ra.denOf, rb.numOf, rb.denOf] at hgoal
    rw [hgoal]
    clear hgoal hc
    generalize num (cutN a.toList) = n at *
    generalize num (cutD a.toList) = p at *
    generalize num (cutN b.toList) = m at *
    generalize num (cutD b.toList) = q at *
    have hz := div_zero_text rb
    by_cases hm : m = 0
    · rw [if_pos hm]
      rw [decide_eq_true hm] at hz
      clear hm
      go_enter Tryz.func25, Tryz.ntmps25
      go_wp2_with fail
      refine (checks_new [a, b] _ _ 2 rfl hE (by omega) HFit).mono ?_
      rintro e w1 ⟨rfl, hb1⟩
      rw [hf]
      go_wp2_with fail
      go_ret2
      exact ⟨_, toList_lit [], rfl, hb1⟩
    · rw [if_neg hm]
      rw [decide_eq_false hm] at hz
      clear hm
      go_enter Tryz.func25, Tryz.ntmps25
      go_wp2_with fail
      refine (checks_new [a, b] _ _ 2 rfl hE (by omega) HFit).mono ?_
      rintro e w1 ⟨rfl, hb1⟩
      rw [hf]
      go_wp2_with fail
      refine (made_right 79 (by simp) _ _ _ a b n p m q _ (hE.below hb1) ra rb (fun s cn cp cm cq w => div_terms s n p m q cn cp cm cq w)).mono ?_
      intro r w2 h
      obtain ⟨c, hc, rfl, hB⟩ := h.opS
      go_wp2_with fail
      go_ret2
      exact ⟨c, hc, rfl, hb1.trans (hB.mono hb1.size)⟩
  · have hgoal : divR a.toList b.toList = ([], chkR2 a.toList b.toList) := by unfold divR; rw [if_neg hc]
    rw [hgoal]
    have t1 : (chkR2 a.toList b.toList != 0) = true := by simp [hc]
    clear hc hgoal
    go_enter Tryz.func25, Tryz.ntmps25
    go_wp2_with fail
    refine (checks_new [a, b] _ _ 2 rfl hE (by omega) HFit).mono ?_
    rintro e w1 ⟨rfl, hb1⟩
    rw [first_two]
    go_wp2_with fail
    go_ret2
    exact ⟨_, toList_lit [], rfl, hb1⟩

end Go.Proofs.YtgkiaonakiflbaaGreatDoor

/- The contracts of ratio's Compare, Parts, Sign, Neg, Floor, Make, Of, Whole. -/
namespace Go.Proofs.YtgkiaonakiflbaaGreatDoor
open Go.RowKit

/-- A number and an error that a function of the inputs says. -/
def OpI (F : Int × Int) (w : World) (r : Ending) (w' : World) : Prop := r = .returned (.tuple #[.int .i64 F.1, .int .i64 F.2]) ∧ Below w.heap.size w w'
def cmpR (a b : Bytes) : Int × Int :=
  if chkR2 a b = 0 then (if wid (numOf a * denOf b) ≤ 1024 ∧ wid (numOf b * denOf a) ≤ 1024 then (cmpZ (numOf a * denOf b) (numOf b * denOf a), 0) else (0, 11)) else (0, chkR2 a b)

theorem fits_two {a b : ByteArray} (h1 : a.size < 4294967281) (h2 : b.size < 4294967281) : FitsR [a, b] := by
  intro s hs
  rcases List.mem_cons.1 hs with rfl | hs
  · exact h1
  · rcases List.mem_cons.1 hs with rfl | hs
    · exact h2
    · cases hs

set_option maxRecDepth 100000 in
set_option maxHeartbeats 1000000 in
theorem ratio_Compare (a b : ByteArray) (w : World) (hE : Env w) (h1 : a.size < 4294967281) (h2 : b.size < 4294967281) :
    Calls Tryz.prog 27 #[.string a, .string b] w (OpI (cmpR a.toList b.toList) w) := by
  have HFit := fits_two h1 h2
  by_cases hc : chkR2 a.toList b.toList = 0
  · have ha : chkR a.toList = 0 := by unfold chkR2 at hc; split at hc <;> assumption
    have hb : chkR b.toList = 0 := by unfold chkR2 at hc; rw [if_pos ha] at hc; exact hc
    have ra := RR.of_chk ha
    have rb := RR.of_chk hb
    have hf := first2 ra rb
    have hgoal : cmpR a.toList b.toList = if wid (numOf a.toList * denOf b.toList) ≤ 1024 ∧ wid (numOf b.toList * denOf a.toList) ≤ 1024 then (cmpZ (numOf a.toList * denOf b.toList) (numOf b.toList * denOf a.toList), 0) else (0, 11) := by unfold cmpR; rw [if_pos hc]
    rw [ra.numOf, ra.denOf, rb.numOf, rb.denOf] at hgoal
    have HG := Lib.hid hgoal
    clear hgoal hc
    generalize num (cutN a.toList) = n at *
    generalize num (cutD a.toList) = p at *
    generalize num (cutN b.toList) = m at *
    generalize num (cutD b.toList) = q at *
    have a1 := mul2 (y := q) (.inl rfl) ra.wn
    have a2 := mul2 (y := p) (mulE_two [n, q] (v := 1) (.inl rfl)) rb.wn
    have hres : (mulE (mulE 0 1 [n, q]) 1 [m, p] = 0 ∧ mulV 0 1 [n, q] = n * q ∧ mulV (mulE 0 1 [n, q]) 1 [m, p] = m * p ∧ wid (n * q) ≤ 1024 ∧ wid (m * p) ≤ 1024) ∨ (mulE (mulE 0 1 [n, q]) 1 [m, p] = 11 ∧ ¬ (wid (n * q) ≤ 1024 ∧ wid (m * p) ≤ 1024)) := by
      rcases a1 with ⟨_, b1, b2, b3⟩ | ⟨b1, b2⟩
      · rcases a2 with ⟨_, c1, c2, c3⟩ | ⟨c1, c2⟩
        · exact .inl ⟨c1, b2, c2, b3, c3⟩
        · exact .inr ⟨c1, by omega⟩
      · rcases a2 with ⟨d1, _⟩ | ⟨c1, c2⟩
        · omega
        · exact .inr ⟨c1, by omega⟩
    have HRes := Lib.hid hres; clear hres a1 a2
    go_enter Tryz.func27, Tryz.ntmps27
    go_wp2_with fail
    refine (checks_new [a, b] _ _ 2 rfl hE (by omega) HFit).mono ?_
    rintro e w1 ⟨rfl, hb1⟩
    rw [hf]
    have hE1 := hE.below hb1
    go_wp2_with fail
    refine (cut_right a n p _ hE1 ra).mono ?_
    rintro e w' ⟨cn, cp, hn, hp, rfl, k1, rfl⟩
    go_wp2_with fail
    refine (cut_right b m q _ (by exact ⟨hE1.tab, hE1.mx⟩) rb).mono ?_
    rintro e w' ⟨cm, cq, hm, hq, rfl, k2, rfl⟩
    have hB2 : Below w.heap.size w ((w1.drewN k1).drewN k2) := below_drewN (below_drewN hb1 k1) k2
    have hE2 := hE.below hB2
    generalize (w1.drewN k1).drewN k2 = w2 at *
    go_wp2_with fail
    have hS := St.new hE2
    have hB3 : Below w.heap.size w (w2.alloc (.cells #[.int .i64 0] 90)) := hB2.alloc hB2.size _
    have hE3 := hE.below hB3
    have hsz := hB2.size
    have key := fun T => mul_new w2.heap.size 0 [cn, cq] [n, q] 2 T _ hE3 hS ⟨hn, hq, trivial⟩ rfl (by omega)
    simp only [World.size_alloc] at key
    refine (key _).mono ?_
    clear key
    rintro r w4 ⟨c1, hc1, rfl, hg4, hs4⟩
    have hB4 := only_new hB3 hg4 hB3.size hsz
    have hE4 := hE.below hB4
    generalize w2.heap.size = s at *
    go_wp2_with fail
    refine (mul_new s _ [cm, cp] [m, p] 2 _ _ hE4 hs4 ⟨hm, hp, trivial⟩ rfl (by omega)).mono ?_
    rintro r w5 ⟨c2, hc2, rfl, hg5, hs5⟩
    have hB5 := only_new hB4 hg5 hB4.size hsz
    have c5 := hs5.cell
    rcases HRes.out with ⟨e1, e2, e3, e4, e5⟩ | ⟨e1, e2⟩
    · rw [e1] at c5
      rw [e2] at hc1
      rw [e3] at hc2
      have HF : Hid (cmpR a.toList b.toList = (cmpZ (n * q) (m * p), 0)) := by show _ = _; rw [HG.out, if_pos ⟨e4, e5⟩]
      clear e1 e2 e3
      go_wp2_with fail
      refine (whole_Compare_ok c1 c2 _ _ _ hc1.is hc2.is e4 e5).mono ?_
      rintro r w6 ⟨rfl, hb6⟩
      go_wp2_with fail
      go_ret2
      rw [HF.out]
      exact ⟨rfl, hB5.trans (hb6.mono hB5.size)⟩
    · rw [e1] at c5
      have HF : Hid (cmpR a.toList b.toList = (0, 11)) := by show _ = _; rw [HG.out, if_neg e2]
      clear e1 e2
      go_wp2_with fail
      go_quiet (fail)
      go_wp2_with fail
      go_ret2
      rw [HF.out]
      exact ⟨rfl, below_drewN hB5 _⟩
  · have hgoal : cmpR a.toList b.toList = (0, chkR2 a.toList b.toList) := by unfold cmpR; rw [if_neg hc]
    rw [hgoal]
    have t1 : (chkR2 a.toList b.toList != 0) = true := by simp [hc]
    clear hc hgoal
    go_enter Tryz.func27, Tryz.ntmps27
    go_wp2_with fail
    refine (checks_new [a, b] _ _ 2 rfl hE (by omega) HFit).mono ?_
    rintro e w1 ⟨rfl, hb1⟩
    rw [first_two]
    go_wp2_with fail
    go_ret2
    exact ⟨rfl, hb1⟩

theorem parts_err (a : ByteArray) (w : World) (hE : Env w) (h1 : a.size < 4294967281) (hc : chkR a.toList ≠ 0) :
    Calls Tryz.prog 39 #[.string a] w fun r w' => r = .returned (.tuple #[.string ⟨#[]⟩, .string ⟨#[]⟩, .int .i64 (chkR a.toList)]) ∧ Below w.heap.size w w' := by
  have t1 : (chkR a.toList != 0) = true := by simp [hc]
  clear hc
  go_enter Tryz.func39, Tryz.ntmps39
  go_wp2_with fail
  refine (ratio_Check a _ hE h1).mono ?_
  rintro r w1 ⟨rfl, hb⟩
  go_wp2_with fail
  go_ret3
  exact ⟨rfl, hb⟩

theorem parts_right (a : ByteArray) (n p : Int) (w : World) (hE : Env w) (h : RR a n p) :
    Calls Tryz.prog 39 #[.string a] w fun r w' => ∃ c d, RI c n ∧ RI d p ∧ r = .returned (.tuple #[.string c, .string d, .int .i64 0]) ∧ Below w.heap.size w w' := by
  have t1 := h.chk
  go_enter Tryz.func39, Tryz.ntmps39
  go_wp2_with fail
  refine (ratio_Check a _ hE (by have := h.size; omega)).mono ?_
  rintro r w1 ⟨rfl, hb⟩
  rw [t1]
  go_wp2_with fail
  refine (cut_right a n p _ (hE.below hb) h).mono ?_
  rintro e w' ⟨c, d, hc, hd, rfl, k1, rfl⟩
  go_wp2_with fail
  go_ret3
  exact ⟨c, d, hc, hd, rfl, below_drewN hb _⟩

def signR (a : Bytes) : Int × Int := if chkR a = 0 then (sgn (numOf a), 0) else (0, chkR a)
theorem ratio_Sign (a : ByteArray) (w : World) (hE : Env w) (h1 : a.size < 4294967281) :
    Calls Tryz.prog 41 #[.string a] w (OpI (signR a.toList) w) := by
  by_cases hc : chkR a.toList = 0
  · have ra := RR.of_chk hc
    have hgoal : signR a.toList = (sgn (numOf a.toList), 0) := by unfold signR; rw [if_pos hc]
    rw [ra.numOf] at hgoal
    rw [hgoal]
    clear hgoal hc
    generalize num (cutN a.toList) = n at *
    generalize num (cutD a.toList) = p at *
    go_enter Tryz.func41, Tryz.ntmps41
    go_wp2_with fail
    refine (parts_right a n p _ hE ra).mono ?_
    rintro r w1 ⟨c, d, hc, hd, rfl, hb⟩
    go_wp2_with fail
    refine (whole_Sign c n _ hc).mono ?_
    rintro r w2 ⟨rfl, hb2⟩
    go_wp2_with fail
    go_ret2
    exact ⟨rfl, hb.trans (hb2.mono hb.size)⟩
  · have hgoal : signR a.toList = (0, chkR a.toList) := by unfold signR; rw [if_neg hc]
    rw [hgoal]
    have t1 : (chkR a.toList != 0) = true := by simp [hc]
    clear hgoal
    have HC := Lib.hid hc; clear hc
    go_enter Tryz.func41, Tryz.ntmps41
    go_wp2_with fail
    refine (parts_err a _ hE h1 HC.out).mono ?_
    rintro r w1 ⟨rfl, hb⟩
    go_wp2_with fail
    go_ret2
    exact ⟨rfl, hb⟩

def negR (a : Bytes) : Bytes × Int := if chkR a = 0 then (rtext (-(numOf a)) (denOf a), 0) else ([], chkR a)
theorem ratio_Neg (a : ByteArray) (w : World) (hE : Env w) (h1 : a.size < 4294967281) :
    Calls Tryz.prog 43 #[.string a] w (OpS (negR a.toList) w) := by
  by_cases hc : chkR a.toList = 0
  · have ra := RR.of_chk hc
    have hgoal : negR a.toList = (rtext (-(numOf a.toList)) (denOf a.toList), 0) := by unfold negR; rw [if_pos hc]
    rw [ra.numOf, ra.denOf] at hgoal
    rw [hgoal]
    clear hgoal hc
    generalize num (cutN a.toList) = n at *
    generalize num (cutD a.toList) = p at *
    go_enter Tryz.func43, Tryz.ntmps43
    go_wp2_with fail
    refine (parts_right a n p _ hE ra).mono ?_
    rintro r w1 ⟨c, d, hc, hd, rfl, hb⟩
    go_wp2_with fail
    refine (whole_Neg c n _ hc).mono ?_
    rintro r w2 ⟨o, ho, rfl, hb2⟩
    go_wp2_with fail
    refine (ratio_joined o d _ _ _ ho.is hd.is ho.size_le' hd.size_le').mono ?_
    rintro r w3 ⟨t, ht, rfl, rfl⟩
    go_wp2_with fail
    go_ret2
    exact ⟨t, ht, rfl, hb.trans (hb2.mono hb.size)⟩
  · have hgoal : negR a.toList = ([], chkR a.toList) := by unfold negR; rw [if_neg hc]
    rw [hgoal]
    have t1 : (chkR a.toList != 0) = true := by simp [hc]
    clear hgoal
    have HC := Lib.hid hc; clear hc
    go_enter Tryz.func43, Tryz.ntmps43
    go_wp2_with fail
    refine (parts_err a _ hE h1 HC.out).mono ?_
    rintro r w1 ⟨rfl, hb⟩
    go_wp2_with fail
    go_ret2
    exact ⟨_, toList_lit [], rfl, hb⟩

def floorR (a : Bytes) : Bytes × Int := if chkR a = 0 then (Lib.itoa ((numOf a).fdiv (denOf a)), 0) else ([], chkR a)
theorem ratio_Floor (a : ByteArray) (w : World) (hE : Env w) (h1 : a.size < 4294967281) :
    Calls Tryz.prog 45 #[.string a] w (OpS (floorR a.toList) w) := by
  by_cases hc : chkR a.toList = 0
  · have ra := RR.of_chk hc
    have hgoal : floorR a.toList = (Lib.itoa ((numOf a.toList).fdiv (denOf a.toList)), 0) := by unfold floorR; rw [if_pos hc]
    rw [ra.numOf, ra.denOf] at hgoal
    rw [hgoal]
    clear hgoal hc
    generalize num (cutN a.toList) = n at *
    generalize num (cutD a.toList) = p at *
    have hp0 : Hid (p ≠ 0) := show p ≠ 0 by have := ra.pos; omega
    go_enter Tryz.func45, Tryz.ntmps45
    go_wp2_with fail
    refine (parts_right a n p _ hE ra).mono ?_
    rintro r w1 ⟨c, d, hc, hd, rfl, hb⟩
    go_wp2_with fail
    refine (whole_Quo c d n p _ (hE.below hb) hc hd hp0.out).mono ?_
    rintro r w2 ⟨o, ho, rfl, hb2⟩
    go_wp2_with fail
    go_ret2
    exact ⟨o, ho.is, rfl, hb.trans (hb2.mono hb.size)⟩
  · have hgoal : floorR a.toList = ([], chkR a.toList) := by unfold floorR; rw [if_neg hc]
    rw [hgoal]
    have t1 : (chkR a.toList != 0) = true := by simp [hc]
    clear hgoal
    have HC := Lib.hid hc; clear hc
    go_enter Tryz.func45, Tryz.ntmps45
    go_wp2_with fail
    refine (parts_err a _ hE h1 HC.out).mono ?_
    rintro r w1 ⟨rfl, hb⟩
    go_wp2_with fail
    go_ret2
    exact ⟨_, toList_lit [], rfl, hb⟩

end Go.Proofs.YtgkiaonakiflbaaGreatDoor

/- The contracts of ratio's Make, Of, Whole. -/
namespace Go.Proofs.YtgkiaonakiflbaaGreatDoor
open Go.RowKit

def makeR (a b : Bytes) : Bytes × Int :=
  if chk2 a b = 0 then (if num b = 0 then ([], 10) else (rtext (lowN (num a) (num b)) (lowD (num a) (num b)), 0)) else ([], chk2 a b)

theorem firstZ_two (a b : ByteArray) : firstErr chk [a, b] = chk2 a.toList b.toList := by
  unfold firstErr chk2
  split
  · unfold firstErr
    split
    · rename_i h; rw [h]; rfl
    · rfl
  · rfl

set_option maxRecDepth 100000 in
set_option maxHeartbeats 1000000 in
theorem ratio_Make (a b : ByteArray) (w : World) (hE : Env w) (h1 : a.size ≤ 140737488351232) (h2 : b.size ≤ 140737488351232) :
    Calls Tryz.prog 30 #[.string a, .string b] w (OpS (makeR a.toList b.toList) w) := by
  have hf : Fits [a, b] := by
    intro s hs
    rcases List.mem_cons.1 hs with rfl | hs
    · exact h1
    · rcases List.mem_cons.1 hs with rfl | hs
      · exact h2
      · cases hs
  go_enter Tryz.func30, Tryz.ntmps30
  go_wp2_with fail
  have hrow : Row (w.alloc (.cells #[.string a, .string b] 43)) w.heap.size 0 (strs [a, b]) := row_new w _ _
  have hB : Below w.heap.size w (w.alloc (.cells #[.string a, .string b] 43)) := (Below.refl w.heap.size w).alloc (Nat.le_refl _) _
  generalize w.alloc (.cells #[.string a, .string b] 43) = W1 at *
  obtain ⟨bb, hbb⟩ : ∃ bb, bb = w.heap.size := ⟨_, rfl⟩
  rw [← hbb] at hrow hB ⊢
  have Hbb := Lib.hid hbb; clear hbb
  go_loopw [15] (fun i wr => ∃ k : Nat, k ≤ 2 ∧ i = .int .i64 (k : Int) ∧ Below bb w wr ∧ Row wr bb 0 (strs [a, b]) ∧ Hid (firstErr chk [a, b] = firstErr chk ([a, b].drop k))) (fun i _ => 2 - (intOf i).toNat)
  case atStart => exact ⟨0, by omega, rfl, hB, hrow, rfl⟩
  case round =>
    obtain ⟨k, hk, rfl, hbr, hr, hfe⟩ := hrel
    by_cases hlt : k < 2
    · have hkl : k < [a, b].length := hlt
      obtain ⟨s, hs⟩ : ∃ s, s = [a, b][k] := ⟨_, rfl⟩
      have hcell : wr.cell? ⟨bb, k, none⟩ = some (.string s) := by
        have := hr.2 k (by simpa [strs] using hkl)
        rw [Nat.zero_add] at this
        rw [this, hs]; unfold strs; rw [List.getElem_map]
      have hsz := hf s (by rw [hs]; exact List.getElem_mem hkl)
      have hdr := firstErr_drop (f := chk) hkl
      rw [← hs] at hdr
      have HD := Lib.hid hdr
      clear hs hdr
      by_cases he : chk s.toList = 0
      · have g1 : (chk s.toList != 0) = false := by simp [he]
        have He := Lib.hid he; clear he
        go_wp2_with (go_at_call 83; refine (whole_Check _ _ hsz).mono ?_; rintro e w' ⟨rfl, hb1⟩)
        go_roundw
        case rel => exact ⟨k + 1, by omega, by go_num, hbr.trans (hb1.mono (by have := hr.1; omega)), hr.below hb1, by
            refine Eq.trans hfe.out ?_
            rw [HD.out, if_pos He.out]⟩
        case measure => simp [intOf]; omega
      · have g1 : (chk s.toList != 0) = true := by simp [he]
        have hfin : makeR a.toList b.toList = ([], chk s.toList) := by
          have h3 := hfe.out
          rw [HD.out, if_neg he, firstZ_two] at h3
          unfold makeR
          rw [if_neg (by rw [h3]; exact he), h3]
        have HF := Lib.hid hfin; clear hfin he
        go_wp2_with (go_at_call 83; refine (whole_Check _ _ hsz).mono ?_; rintro e w' ⟨rfl, hb1⟩)
        go_ret2
        rw [HF.out]
        refine ⟨_, toList_lit [], rfl, ?_⟩
        rw [← Hbb.out]; exact hbr.trans (hb1.mono (by have := hr.1; omega))
    · obtain rfl : k = 2 := by omega
      have hc2 : chk2 a.toList b.toList = 0 := by rw [← firstZ_two, hfe.out]; rfl
      have ha : chk a.toList = 0 := by unfold chk2 at hc2; split at hc2 <;> assumption
      have hb : chk b.toList = 0 := by unfold chk2 at hc2; rw [if_pos ha] at hc2; exact hc2
      obtain ⟨ia, wa⟩ := chk_num ha
      obtain ⟨ib, wb⟩ := chk_num hb
      have hR : Hid (makeR a.toList b.toList = if num b.toList = 0 then ([], 10) else (rtext (lowN (num a.toList) (num b.toList)) (lowD (num a.toList) (num b.toList)), 0)) := by show _ = _; unfold makeR; rw [if_pos hc2]
      generalize num a.toList = x at *
      generalize num b.toList = y at *
      have hEr := hE.below (w' := wr) (by rw [← Hbb.out]; exact hbr)
      clear ha hb hc2 hlt hk
      by_cases hy : y = 0
      · have g0 := ib.is_zero hy
        have HF : Hid (makeR a.toList b.toList = ([], 10)) := by show _ = _; rw [hR.out, if_pos hy]
        clear hy
        go_wp2_with fail
        go_ret2
        rw [HF.out]
        exact ⟨_, toList_lit [], rfl, by rw [← Hbb.out]; exact hbr⟩
      · have g0 := ib.not_zero hy
        have HF : Hid (makeR a.toList b.toList = (rtext (lowN x y) (lowD x y), 0)) := by show _ = _; rw [hR.out, if_neg hy]
        have hS := St.new hEr
        have hB3 : Below bb w (wr.alloc (.cells #[.int .i64 0] 90)) := hbr.alloc (by have := hr.1; omega) _
        have hE3 := hE.below (w' := wr.alloc (.cells #[.int .i64 0] 90)) (by rw [← Hbb.out]; exact hB3)
        have hbl : bb < wr.heap.size := hr.1
        go_wp2_with fail
        refine (sums_lowest wr.heap.size x y a b _ hE3 hS ⟨ia, wa⟩ ⟨ib, wb⟩ hy).mono ?_
        rintro r w5 ⟨o, ho, rfl, hg5, hs5⟩
        have c5 := hs5.cell
        have hB5 := only_new hB3 hg5 (by simp; omega) (by omega)
        go_wp2_with fail
        go_ret2
        rw [HF.out]
        exact ⟨o, ho.text, rfl, by rw [← Hbb.out]; exact hB5⟩

end Go.Proofs.YtgkiaonakiflbaaGreatDoor

/- The contracts of ratio's Of, Whole, Sum. -/
namespace Go.Proofs.YtgkiaonakiflbaaGreatDoor
open Go.RowKit

theorem ratio_Whole (n : Int) (h0 : -9223372036854775808 ≤ n) (h1 : n ≤ 9223372036854775807) (w : World) (hE : Env w) :
    Calls Tryz.prog 34 #[.int .i64 n] w (NewText n w) := by
  go_enter Tryz.func34, Tryz.ntmps34
  go_wp2_with fail
  refine (whole_Of n h0 h1 _ hE).mono ?_
  rintro e w1 ⟨c, hc, rfl, hb⟩
  go_wp2_with fail
  go_ret
  exact ⟨c, hc, rfl, hb⟩

theorem ratio_Of (n d : Int) (h0 : -9223372036854775808 ≤ n) (h1 : n ≤ 9223372036854775807) (h2 : -9223372036854775808 ≤ d) (h3 : d ≤ 9223372036854775807) (w : World) (hE : Env w) :
    Calls Tryz.prog 33 #[.int .i64 n, .int .i64 d] w (OpS (makeR (Lib.itoa n) (Lib.itoa d)) w) := by
  have wn : wid n ≤ 20 := wid_le_of (k := 20) (by omega) (by rw [show (10 : Nat) ^ 20 = 100000000000000000000 by decide]; omega)
  have wd : wid d ≤ 20 := wid_le_of (k := 20) (by omega) (by rw [show (10 : Nat) ^ 20 = 100000000000000000000 by decide]; omega)
  go_enter Tryz.func33, Tryz.ntmps33
  go_wp2_with fail
  refine (whole_Of n h0 h1 _ hE).mono ?_
  rintro e w1 ⟨a, ha, rfl, hb1⟩
  have sa := ha.size_le
  go_wp2_with fail
  refine (whole_Of d h2 h3 _ (hE.below hb1)).mono ?_
  rintro e w2 ⟨b, hb, rfl, hb2⟩
  have sb := hb.size_le
  have hB2 := hb1.trans (hb2.mono hb1.size)
  go_wp2_with fail
  refine (ratio_Make a b _ (hE.below hB2) (by omega) (by omega)).mono ?_
  rintro e w3 ⟨c, hc, rfl, hb3⟩
  rw [ha.out, hb.out] at hc ⊢
  go_wp2_with fail
  go_ret2
  exact ⟨c, hc, rfl, hB2.trans (hb3.mono hB2.size)⟩

/-- The result of Add, and sums of lists. -/
def addR (a b : Bytes) : Bytes × Int := arith (fun n p m q => [n * q, m * p, n * q + m * p, p * q]) (fun n p m q => n * q + m * p) (fun _ p _ q => p * q) a b
def foldR (acc : Bytes) : List ByteArray → Bytes × Int
  | [] => (acc, 0)
  | s :: t => if (addR acc s.toList).2 = 0 then foldR (addR acc s.toList).1 t else ([], (addR acc s.toList).2)
theorem foldR_cons (acc : Bytes) (s : ByteArray) (t : List ByteArray) : foldR acc (s :: t) = if (addR acc s.toList).2 = 0 then foldR (addR acc s.toList).1 t else ([], (addR acc s.toList).2) := rfl
def sumR (ss : List ByteArray) : Bytes × Int := if firstErr chkR ss = 0 then foldR [48] ss else ([], firstErr chkR ss)

/-- What Add leaves, once more. -/
def AddS (a b : ByteArray) (w : World) (r : Ending) (w' : World) : Prop := ∃ c, Is c (addR a.toList b.toList).1 ∧ r = .returned (.tuple #[.string c, .int .i64 (addR a.toList b.toList).2]) ∧ Below w.heap.size w w' ∧ ((addR a.toList b.toList).2 = 0 → ∃ n d, RR c n d)
theorem ratio_AddS (a b : ByteArray) (w : World) (hE : Env w) (h1 : a.size < 4294967281) (h2 : b.size < 4294967281) :
    Calls Tryz.prog 19 #[.string a, .string b] w (AddS a b w) := by
  refine (ratio_Add a b w hE h1 h2).mono ?_
  intro r w' h
  obtain ⟨c, hc, hr, hB⟩ := h.opS
  refine ⟨c, hc, hr, hB, ?_⟩
  intro he
  rcases h with ⟨h3, rfl, _⟩ | ⟨n, p, m, q, ha, hb, _, h4 | h4 | ⟨_, _, d, hd, h6⟩⟩
  · simp only [Ending.returned.injEq, Value.tuple.injEq] at hr
    simp at hr
    exact absurd (hr.2.trans he) h3
  · obtain ⟨_, rfl⟩ := h4
    simp at hr
    unfold addR at he
    rw [he] at hr; exact absurd hr.2 (by omega)
  · obtain ⟨_, _, rfl⟩ := h4
    simp at hr
    unfold addR at he
    rw [he] at hr; exact absurd hr.2 (by omega)
  · subst h6
    simp at hr
    rw [← hr.1]
    exact ⟨_, _, hd⟩

theorem zero_right : RR ⟨#[48]⟩ 0 1 := ⟨by rw [rtext_one, itoa_zero]; exact toList_lit _, by omega, by decide, by have := wid_zero; omega, by have := wid_one; omega⟩

set_option maxRecDepth 100000 in
set_option maxHeartbeats 1000000 in
theorem ratio_Sum (b off n c : Nat) (ss : List ByteArray) (w : World) (hE : Env w) (hn : ss.length = n) (hmax : n ≤ 4096) (hf : FitsR ss) (hr : Row w b off (strs ss)) :
    Calls Tryz.prog 37 #[.slice (some ⟨b, off, none⟩) n c] w (OpS (sumR ss) w) := by
  have hch := ratio_checks b off n c ss w hE hn (by omega) hf hr
  have HCH := Lib.hid hch; clear hch
  have Hn := Lib.hid hn; clear hn
  by_cases he : firstErr chkR ss = 0
  · have HS : Hid (sumR ss = foldR [48] ss) := by show _ = _; unfold sumR; rw [if_pos he]
    go_enter Tryz.func37, Tryz.ntmps37
    go_wp2_with fail
    refine HCH.out.mono ?_
    rintro r w1 ⟨rfl, hb1⟩
    rw [he]
    clear he
    have hr1 := hr.below hb1
    go_wp2_with fail
    go_loopw [5, 20] (fun o i wr => ∃ (k : Nat) (a : ByteArray) (x d : Int), k ≤ n ∧ o = .string a ∧ i = .int .i64 (k : Int) ∧ RR a x d ∧ Hid (sumR ss = foldR a.toList (ss.drop k)) ∧ Below w.heap.size w wr) (fun _ i _ => n - (intOf i).toNat)
    case atStart => exact ⟨0, _, 0, 1, Nat.zero_le _, rfl, rfl, zero_right, by show _ = _; rw [HS.out, List.drop_zero, toList_lit], hb1⟩
    case round =>
      obtain ⟨k, a, x, d, hk, rfl, rfl, hra, hfo, hbr⟩ := hrel
      have hEr := hE.below hbr
      by_cases hlt : k < n
      · have hkl : k < ss.length := by have := Hn.out; omega
        have hdr : ss.drop k = ss[k] :: ss.drop (k + 1) := List.drop_eq_getElem_cons hkl
        obtain ⟨s, hs⟩ : ∃ s, s = ss[k] := ⟨_, rfl⟩
        have hcell : wr.cell? ⟨b, off + k, none⟩ = some (.string s) := by
          have := (hr.below hbr).2 k (by simpa [strs] using hkl)
          rw [this, hs]; simp [strs]
        have hsz := hf s (by rw [hs]; exact List.getElem_mem hkl)
        rw [hdr, ← hs] at hfo
        clear hdr hs
        by_cases h0 : (addR a.toList s.toList).2 = 0
        · have hf2 : sumR ss = foldR (addR a.toList s.toList).1 (ss.drop (k + 1)) := by rw [hfo.out, foldR_cons, if_pos h0]
          have HF := Lib.hid hf2; have H0 := Lib.hid h0; clear hf2 h0
          go_wp2_with fail
          refine (ratio_AddS a s _ hEr (by have := hra.size; omega) hsz).mono ?_
          rintro r w2 ⟨q, hq, rfl, hb2, hrr⟩
          obtain ⟨x2, d2, hq2⟩ := hrr H0.out
          rw [H0.out]
          rw [← hq.out] at HF
          clear hrr
          go_wp2_with fail
          go_roundw
          case rel => exact ⟨k + 1, q, x2, d2, by omega, rfl, by go_num, hq2, HF.out, hbr.trans (hb2.mono hbr.size)⟩
          case measure => simp [intOf]; omega
        · have hf2 : sumR ss = ([], (addR a.toList s.toList).2) := by rw [hfo.out, foldR_cons, if_neg h0]
          have HF := Lib.hid hf2
          have t1 : ((addR a.toList s.toList).2 != 0) = true := by simp [h0]
          clear hf2 h0
          go_wp2_with fail
          refine (ratio_AddS a s _ hEr (by have := hra.size; omega) hsz).mono ?_
          rintro r w2 ⟨q, hq, rfl, hb2, hrr⟩
          clear hrr
          go_wp2_with fail
          go_ret2
          rw [HF.out]
          exact ⟨_, toList_lit [], rfl, hbr.trans (hb2.mono hbr.size)⟩
      · have hkn : ss.drop k = [] := List.drop_eq_nil_of_le (by have := Hn.out; omega)
        rw [hkn] at hfo
        clear hkn
        go_wp2_with fail
        go_ret2
        rw [hfo.out]
        exact ⟨a, rfl, rfl, hbr⟩
  · have HS : Hid (sumR ss = ([], firstErr chkR ss)) := by show _ = _; unfold sumR; rw [if_neg he]
    have t1 : (firstErr chkR ss != 0) = true := by simp [he]
    clear he
    go_enter Tryz.func37, Tryz.ntmps37
    go_wp2_with fail
    refine HCH.out.mono ?_
    rintro r w1 ⟨rfl, hb1⟩
    go_wp2_with fail
    go_ret2
    rw [HS.out]
    exact ⟨_, toList_lit [], rfl, hb1⟩

end Go.Proofs.YtgkiaonakiflbaaGreatDoor
