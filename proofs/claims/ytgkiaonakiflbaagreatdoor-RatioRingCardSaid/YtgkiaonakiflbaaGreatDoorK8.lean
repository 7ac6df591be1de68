/- K8: the texts Sg Sh Si Sj Sk Sl Sm, joined. -/
import Derived.Test.YtgkiaonakiflbaaGreatDoorK7
/- Signs, and quotients up to common factors: the contracts of metrolabref02's Plus, Minus, Times, Signum, Order on them. -/
namespace Go.Proofs.YtgkiaonakiflbaaGreatDoor
open Go.RowKit

theorem sgn_mul (x y : Int) : sgn (x * y) = sgn x * sgn y := by
  rcases Int.lt_trichotomy x 0 with hx | hx | hx
  · rcases Int.lt_trichotomy y 0 with hy | hy | hy
    · rw [sgn_neg hx, sgn_neg hy, sgn_pos (Int.mul_pos_of_neg_of_neg hx hy)]; rfl
    · rw [hy, Int.mul_zero, sgn_neg hx]; rfl
    · rw [sgn_neg hx, sgn_pos hy, sgn_neg (Int.mul_neg_of_neg_of_pos hx hy)]; rfl
  · rw [hx, Int.zero_mul, sgn_zero (z := 0) rfl]; simp
  · rcases Int.lt_trichotomy y 0 with hy | hy | hy
    · rw [sgn_pos hx, sgn_neg hy, sgn_neg (Int.mul_neg_of_pos_of_neg hx hy)]; rfl
    · rw [hy, Int.mul_zero, sgn_pos hx]; rfl
    · rw [sgn_pos hx, sgn_pos hy, sgn_pos (Int.mul_pos hx hy)]; rfl
theorem sgn_scale {k : Int} (x : Int) (hk : 0 < k) : sgn (x * k) = sgn x := by rw [sgn_mul, sgn_pos hk, Int.mul_one]
theorem cmp_sub (x y : Int) : cmpZ x y = sgn (x - y) := by
  unfold cmpZ sgn
  repeat' split
  all_goals omega
theorem sgn_cross {n d N D : Int} (hd : 0 < d) (hD : 0 < D) (h : n * D = N * d) : sgn n = sgn N := by
  rw [← sgn_scale n hD, h, sgn_scale N hd]
theorem cmp_cross {n p m q A P B Q : Int} (hp : 0 < p) (hq : 0 < q) (hP : 0 < P) (hQ : 0 < Q) (h1 : n * P = A * p) (h2 : m * Q = B * q) : cmpZ (n * q) (m * p) = cmpZ (A * Q) (B * P) := by
  rw [cmp_sub, cmp_sub]
  refine sgn_cross (d := p * q) (D := P * Q) (Int.mul_pos hp hq) (Int.mul_pos hP hQ) ?_
  grind
theorem mul_range {s t : Int} (hs : -1 ≤ s ∧ s ≤ 1) (ht : -1 ≤ t ∧ t ≤ 1) : -1 ≤ s * t ∧ s * t ≤ 1 := by
  rcases (show s = -1 ∨ s = 0 ∨ s = 1 by omega) with h | h | h
  all_goals subst h; omega

/-- A text of a quotient that is N / D. -/
def Rep (K : Nat) (c : ByteArray) (N D : Int) : Prop := ∃ n d, RB K c n d ∧ 0 < D ∧ n * D = N * d
theorem RB.rep {K : Nat} {c : ByteArray} {n d : Int} (h : RB K c n d) : Rep K c n d := ⟨n, d, h, h.pos, rfl⟩
theorem RR.rep {c : ByteArray} {n d : Int} (h : RR c n d) : Rep 1024 c n d := h.rb.rep
theorem Rep.cast {K : Nat} {c : ByteArray} {N D N' D' : Int} (h : Rep K c N D) (h0 : 0 < D') (e : N * D' = N' * D) : Rep K c N' D' := by
  obtain ⟨n, d, hr, hD, h1⟩ := h
  refine ⟨n, d, hr, h0, Int.eq_of_mul_eq_mul_right (a := D) (by omega) ?_⟩
  grind
theorem Rep.mono {K L : Nat} {c : ByteArray} {N D : Int} (h : Rep K c N D) (hK : K ≤ L) : Rep L c N D := by
  obtain ⟨n, d, hr, h1⟩ := h
  exact ⟨n, d, ⟨hr.text, hr.pos, hr.cop, Nat.le_trans hr.wn hK, Nat.le_trans hr.wd hK⟩, h1⟩
/-- Such a text, made anew. -/
def NewRep (K : Nat) (N D : Int) (w : World) (e : Ending) (w' : World) : Prop := ∃ c, Rep K c N D ∧ e = .returned (.string c) ∧ Below w.heap.size w w'

theorem low_rep {K : Nat} {N D A P : Int} {c : ByteArray} (hc : Is c (rtext (lowN N D) (lowD N D))) (hD : D ≠ 0) (hP : 0 < P) (h1 : wid N ≤ K) (h2 : wid D ≤ K) (e : N * P = A * D) : Rep K c A P := by
  have hl := low_spec N D hD
  refine ⟨_, _, ⟨hc, hl.pos, hl.cop, Nat.le_trans (lowN_wid hD) h1, Nat.le_trans (lowD_wid hD) h2⟩, hP, ?_⟩
  have e1 := hl.num
  have e2 := hl.den
  generalize lowN N D = u at *
  generalize lowD N D = v at *
  have hne := hl.ne
  generalize gS N D = g at *
  clear hl
  refine Int.eq_of_mul_eq_mul_right hne ?_
  grind

theorem rep_PlusR (K : Nat) (a b : ByteArray) (A P B Q : Int) (w : World) (ha : Rep K a A P) (hb : Rep K b B Q) (hK : K ≤ 1000000) :
    Calls Tryz.prog 73 #[.string a, .string b] w (NewRep (2 * K + 1) (A * Q + B * P) (P * Q) w) := by
  obtain ⟨n, p, ra, hP, h1⟩ := ha
  obtain ⟨m, q, rb, hQ, h2⟩ := hb
  refine (ref_PlusR K a b n p m q w ra rb hK).mono ?_
  rintro e w' ⟨c, hc, rfl, hB⟩
  have u1 := wid_mul n q
  have u2 := wid_mul m p
  have u3 := wid_mul p q
  have u4 := wid_add (n * q) (m * p)
  have v1 := ra.wn; have v2 := ra.wd; have v3 := rb.wn; have v4 := rb.wd
  have hD : 0 < p * q := Int.mul_pos ra.pos rb.pos
  exact ⟨c, low_rep hc (by omega) (Int.mul_pos hP hQ) (by omega) (by omega) (by grind), rfl, hB⟩
theorem rep_MinusR (K : Nat) (a b : ByteArray) (A P B Q : Int) (w : World) (ha : Rep K a A P) (hb : Rep K b B Q) (hK : K ≤ 1000000) :
    Calls Tryz.prog 76 #[.string a, .string b] w (NewRep (2 * K + 1) (A * Q - B * P) (P * Q) w) := by
  obtain ⟨n, p, ra, hP, h1⟩ := ha
  obtain ⟨m, q, rb, hQ, h2⟩ := hb
  refine (ref_MinusR K a b n p m q w ra rb hK).mono ?_
  rintro e w' ⟨c, hc, rfl, hB⟩
  have u1 := wid_mul n q
  have u2 := wid_mul m p
  have u3 := wid_mul p q
  have u4 := wid_sub (n * q) (m * p)
  have v1 := ra.wn; have v2 := ra.wd; have v3 := rb.wn; have v4 := rb.wd
  have hD : 0 < p * q := Int.mul_pos ra.pos rb.pos
  exact ⟨c, low_rep hc (by omega) (Int.mul_pos hP hQ) (by omega) (by omega) (by grind), rfl, hB⟩
theorem rep_TimesR (K : Nat) (a b : ByteArray) (A P B Q : Int) (w : World) (ha : Rep K a A P) (hb : Rep K b B Q) (hK : K ≤ 1000000) :
    Calls Tryz.prog 78 #[.string a, .string b] w (NewRep (2 * K + 1) (A * B) (P * Q) w) := by
  obtain ⟨n, p, ra, hP, h1⟩ := ha
  obtain ⟨m, q, rb, hQ, h2⟩ := hb
  have hD : 0 < p * q := Int.mul_pos ra.pos rb.pos
  refine (ref_TimesR K a b n p m q w ra rb hK (by omega)).mono ?_
  rintro e w' ⟨c, hc, rfl, hB⟩
  have u1 := wid_mul n m
  have u3 := wid_mul p q
  have v1 := ra.wn; have v2 := ra.wd; have v3 := rb.wn; have v4 := rb.wd
  exact ⟨c, low_rep hc (by omega) (Int.mul_pos hP hQ) (by omega) (by omega) (by grind), rfl, hB⟩
theorem rep_Signum (K : Nat) (a : ByteArray) (A P : Int) (w : World) (ha : Rep K a A P) (hK : K ≤ 1000000) :
    Calls Tryz.prog 57 #[.string a] w fun e w' => e = .returned (.int .i64 (sgn A)) ∧ Below w.heap.size w w' := by
  obtain ⟨n, p, ra, hP, h1⟩ := ha
  rw [← sgn_cross ra.pos hP h1]
  exact ref_Signum K a n p w ra (by omega)
theorem rep_OrderR (K : Nat) (a b : ByteArray) (A P B Q : Int) (w : World) (ha : Rep K a A P) (hb : Rep K b B Q) (hK : K ≤ 1000000) :
    Calls Tryz.prog 82 #[.string a, .string b] w fun e w' => e = .returned (.int .i64 (cmpZ (A * Q) (B * P))) ∧ Below w.heap.size w w' := by
  obtain ⟨n, p, ra, hP, h1⟩ := ha
  obtain ⟨m, q, rb, hQ, h2⟩ := hb
  rw [← cmp_cross ra.pos rb.pos hP hQ h1 h2]
  exact ref_OrderR K a b n p m q w ra rb hK

/-- The sign of a sum with a root, from signs. -/
def rootV (s t o : Int) : Int := if 0 ≤ s * t then (if s = 0 then t else s) else s * o
def rootZ (a b c : Int) : Int := rootV (sgn a) (sgn b * sgn c) (sgn (a * a - b * b * c))
theorem rootV_range {s t o : Int} (hs : -1 ≤ s ∧ s ≤ 1) (ht : -1 ≤ t ∧ t ≤ 1) (ho : -1 ≤ o ∧ o ≤ 1) : -1 ≤ rootV s t o ∧ rootV s t o ≤ 1 := by
  unfold rootV
  split
  · split
    · exact ht
    · exact hs
  · exact mul_range hs ho
theorem rootZ_range (a b c : Int) : -1 ≤ rootZ a b c ∧ rootZ a b c ≤ 1 := rootV_range (sgn_range _) (mul_range (sgn_range _) (sgn_range _)) (sgn_range _)
theorem root_scaled {A B R P K : Int} (hP : 0 < P) (hK : 0 < K) : rootV (sgn A) (sgn (B * K) * sgn R) (cmpZ (A * A * (P * P * (K * K))) (B * K * (B * K) * R * (P * P))) = rootZ A B R := by
  unfold rootZ
  rw [sgn_scale B hK, cmp_sub, sgn_cross (n := A * A * (P * P * (K * K)) - B * K * (B * K) * R * (P * P)) (N := A * A - B * B * R) (d := P * P * (K * K)) (D := 1) (Int.mul_pos (Int.mul_pos hP hP) (Int.mul_pos hK hK)) (by omega) (by grind)]

end Go.Proofs.YtgkiaonakiflbaaGreatDoor

/- The contracts of metrolabref02's Root, Roots. -/
namespace Go.Proofs.YtgkiaonakiflbaaGreatDoor
open Go.RowKit

/-- What Root leaves. -/
def rootQ (A P B Q C R : Int) : Int := rootV (sgn A) (sgn B * sgn C) (cmpZ (A * A * (Q * Q * R)) (B * B * C * (P * P)))
theorem rootQ_range (A P B Q C R : Int) : -1 ≤ rootQ A P B Q C R ∧ rootQ A P B Q C R ≤ 1 := rootV_range (sgn_range _) (mul_range (sgn_range _) (sgn_range _)) (cmpZ_range _ _)

set_option maxRecDepth 100000 in
set_option maxHeartbeats 1000000 in
theorem ref_Root (K : Nat) (a b c : ByteArray) (A P B Q C R : Int) (w : World) (ha : Rep K a A P) (hb : Rep K b B Q) (hc : Rep K c C R) (hK : K ≤ 100000) :
    Calls Tryz.prog 58 #[.string a, .string b, .string c] w fun e w' => e = .returned (.int .i64 (rootQ A P B Q C R)) ∧ Below w.heap.size w w' := by
  obtain ⟨s, hs⟩ : ∃ s, s = sgn A := ⟨_, rfl⟩
  obtain ⟨u, hu⟩ : ∃ u, u = sgn B := ⟨_, rfl⟩
  obtain ⟨v, hv⟩ : ∃ v, v = sgn C := ⟨_, rfl⟩
  obtain ⟨o, ho⟩ : ∃ o, o = cmpZ (A * A * (Q * Q * R)) (B * B * C * (P * P)) := ⟨_, rfl⟩
  have rs : -1 ≤ s ∧ s ≤ 1 := by rw [hs]; exact sgn_range _
  have ru : -1 ≤ u ∧ u ≤ 1 := by rw [hu]; exact sgn_range _
  have rv : -1 ≤ v ∧ v ≤ 1 := by rw [hv]; exact sgn_range _
  have ro : -1 ≤ o ∧ o ≤ 1 := by rw [ho]; exact cmpZ_range _ _
  have rt := mul_range ru rv
  have rst := mul_range rs rt
  have rso := mul_range rs ro
  have HG : Hid (rootQ A P B Q C R = rootV s (u * v) o) := by show _ = _; unfold rootQ; rw [hs, hu, hv, ho]
  have KA : ∀ wx, Calls Tryz.prog 57 #[.string a] wx fun e w' => e = .returned (.int .i64 s) ∧ Below wx.heap.size wx w' := fun wx => by rw [hs]; exact rep_Signum K a A P wx ha (by omega)
  have KB : ∀ wx, Calls Tryz.prog 57 #[.string b] wx fun e w' => e = .returned (.int .i64 u) ∧ Below wx.heap.size wx w' := fun wx => by rw [hu]; exact rep_Signum K b B Q wx hb (by omega)
  have KC : ∀ wx, Calls Tryz.prog 57 #[.string c] wx fun e w' => e = .returned (.int .i64 v) ∧ Below wx.heap.size wx w' := fun wx => by rw [hv]; exact rep_Signum K c C R wx hc (by omega)
  have HA := Lib.hid KA; have HB := Lib.hid KB; have HC := Lib.hid KC; have HO := Lib.hid ho
  clear KA KB KC hs hu hv ho
  obtain ⟨lu, hu1⟩ := rt
  obtain ⟨lst, hst1⟩ := rst
  obtain ⟨lso, hso1⟩ := rso
  obtain ⟨ls, hs1⟩ := rs
  clear ru rv ro
  by_cases h1 : 0 ≤ s * (u * v)
  · have g1 : decide (0 ≤ s * (u * v)) = true := decide_eq_true h1
    by_cases h2 : s = 0
    · have HF : Hid (rootQ A P B Q C R = u * v) := by show _ = _; rw [HG.out]; unfold rootV; rw [if_pos h1, if_pos h2]
      have g2 : (s == 0) = true := by rw [h2]; rfl
      clear h2
      go_enter Tryz.func58, Tryz.ntmps58
      go_wp2_with fail
      refine (HA.out _).mono ?_
      rintro r w1 ⟨rfl, hb1⟩
      go_wp2_with fail
      refine (HB.out _).mono ?_
      rintro r w2 ⟨rfl, hb2⟩
      have hB2 := hb1.trans (hb2.mono hb1.size)
      go_wp2_with fail
      refine (HC.out _).mono ?_
      rintro r w3 ⟨rfl, hb3⟩
      have hB3 := hB2.trans (hb3.mono hB2.size)
      go_wp2_with fail
      go_ret
      exact ⟨ret_int HF.out.symm, hB3⟩
    · have HF : Hid (rootQ A P B Q C R = s) := by show _ = _; rw [HG.out]; unfold rootV; rw [if_pos h1, if_neg h2]
      have g2 : (s == 0) = false := by simp [h2]
      clear h2
      go_enter Tryz.func58, Tryz.ntmps58
      go_wp2_with fail
      refine (HA.out _).mono ?_
      rintro r w1 ⟨rfl, hb1⟩
      go_wp2_with fail
      refine (HB.out _).mono ?_
      rintro r w2 ⟨rfl, hb2⟩
      have hB2 := hb1.trans (hb2.mono hb1.size)
      go_wp2_with fail
      refine (HC.out _).mono ?_
      rintro r w3 ⟨rfl, hb3⟩
      have hB3 := hB2.trans (hb3.mono hB2.size)
      go_wp2_with fail
      go_ret
      exact ⟨ret_int HF.out.symm, hB3⟩
  · have g1 : decide (0 ≤ s * (u * v)) = false := decide_eq_false h1
    have HF : Hid (rootQ A P B Q C R = s * o) := by show _ = _; rw [HG.out]; unfold rootV; rw [if_neg h1]
    go_enter Tryz.func58, Tryz.ntmps58
    go_wp2_with fail
    refine (HA.out _).mono ?_
    rintro r w1 ⟨rfl, hb1⟩
    go_wp2_with fail
    refine (HB.out _).mono ?_
    rintro r w2 ⟨rfl, hb2⟩
    have hB2 := hb1.trans (hb2.mono hb1.size)
    go_wp2_with fail
    refine (HC.out _).mono ?_
    rintro r w3 ⟨rfl, hb3⟩
    have hB3 := hB2.trans (hb3.mono hB2.size)
    go_wp2_with fail
    refine (rep_TimesR K a a A P A P _ ha ha (by omega)).mono ?_
    rintro r w4 ⟨x, hx, rfl, hb4⟩
    have hB4 := hB3.trans (hb4.mono hB3.size)
    go_wp2_with fail
    refine (rep_TimesR K b b B Q B Q _ hb hb (by omega)).mono ?_
    rintro r w5 ⟨y, hy, rfl, hb5⟩
    have hB5 := hB4.trans (hb5.mono hB4.size)
    go_wp2_with fail
    refine (rep_TimesR (2 * K + 1) y c _ _ C R _ hy (hc.mono (by omega)) (by omega)).mono ?_
    rintro r w6 ⟨z, hz, rfl, hb6⟩
    have hB6 := hB5.trans (hb6.mono hB5.size)
    go_wp2_with fail
    refine (rep_OrderR (2 * (2 * K + 1) + 1) x z _ _ _ _ _ (hx.mono (by omega)) hz (by omega)).mono ?_
    rintro r w7 ⟨rfl, hb7⟩
    have hB7 := hB6.trans (hb7.mono hB6.size)
    rw [← HO.out]
    go_wp2_with fail
    go_ret
    exact ⟨ret_int HF.out.symm, hB7⟩

end Go.Proofs.YtgkiaonakiflbaaGreatDoor

/- The contracts of metrolabref02's Roots, SignRoot, SignRoots. -/
namespace Go.Proofs.YtgkiaonakiflbaaGreatDoor
open Go.RowKit

/-- The sign of x and y root r and z root t. -/
def rootsZ (x y r z t : Int) : Int := rootV (rootZ x y r) (sgn z * sgn t) (rootZ (x * x + y * y * r - z * z * t) (2 * x * y) r)
theorem rootsZ_range (x y r z t : Int) : -1 ≤ rootsZ x y r z t ∧ rootsZ x y r z t ≤ 1 := rootV_range (rootZ_range _ _ _) (mul_range (sgn_range _) (sgn_range _)) (rootZ_range _ _ _)
theorem rootQ_scaled {A B R P K : Int} (hP : 0 < P) (hK : 0 < K) : rootQ A P (B * K) P R (K * K) = rootZ A B R := by unfold rootQ; exact root_scaled hP hK

theorem wid_two : wid 2 ≤ 1 := wid_le_of (k := 1) (by omega) (by decide)
theorem itoa_two : Lib.itoa 2 = [50] := by
  have h : num [50] = 2 := by unfold num dval dvalFrom; simp [digv_eq]
  rw [← h]; exact itoa_num (by decide)
theorem two_rb : RB 1 ⟨#[50]⟩ 2 1 := ⟨by rw [rtext_one, itoa_two]; exact toList_lit _, by omega, by decide, wid_two, wid_one⟩
theorem two_rep : Rep 1 ⟨#[50]⟩ 2 1 := two_rb.rep

set_option maxRecDepth 100000 in
set_option maxHeartbeats 1000000 in
theorem ref_Roots (K : Nat) (a b c d e : ByteArray) (x y r z t P k l : Int) (w : World) (hP : 0 < P) (hk : 0 < k) (hl : 0 < l) (ha : Rep K a x P) (hb : Rep K b (y * k) P) (hc : Rep K c r (k * k)) (hd : Rep K d (z * l) P) (he : Rep K e t (l * l)) (hK : K ≤ 1000) :
    Calls Tryz.prog 66 #[.string a, .string b, .string c, .string d, .string e] w fun e w' => e = .returned (.int .i64 (rootsZ x y r z t)) ∧ Below w.heap.size w w' := by
  obtain ⟨s, hs⟩ : ∃ s, s = rootZ x y r := ⟨_, rfl⟩
  obtain ⟨u, hu⟩ : ∃ u, u = sgn z := ⟨_, rfl⟩
  obtain ⟨v, hv⟩ : ∃ v, v = sgn t := ⟨_, rfl⟩
  obtain ⟨o, ho⟩ : ∃ o, o = rootZ (x * x + y * y * r - z * z * t) (2 * x * y) r := ⟨_, rfl⟩
  have rs : -1 ≤ s ∧ s ≤ 1 := by rw [hs]; exact rootZ_range _ _ _
  have ru : -1 ≤ u ∧ u ≤ 1 := by rw [hu]; exact sgn_range _
  have rv : -1 ≤ v ∧ v ≤ 1 := by rw [hv]; exact sgn_range _
  have ro : -1 ≤ o ∧ o ≤ 1 := by rw [ho]; exact rootZ_range _ _ _
  have rt := mul_range ru rv
  have rst := mul_range rs rt
  have rso := mul_range rs ro
  have HG : Hid (rootsZ x y r z t = rootV s (u * v) o) := by show _ = _; unfold rootsZ; rw [hs, hu, hv, ho]
  have KA : ∀ wx, Calls Tryz.prog 58 #[.string a, .string b, .string c] wx fun e w' => e = .returned (.int .i64 s) ∧ Below wx.heap.size wx w' := fun wx => by rw [hs, ← rootQ_scaled hP hk]; exact ref_Root K a b c x P (y * k) P r (k * k) wx ha hb hc (by omega)
  have KB : ∀ wx, Calls Tryz.prog 57 #[.string d] wx fun e w' => e = .returned (.int .i64 u) ∧ Below wx.heap.size wx w' := fun wx => by rw [hu, ← sgn_scale z hl]; exact rep_Signum K d _ P wx hd (by omega)
  have KC : ∀ wx, Calls Tryz.prog 57 #[.string e] wx fun e w' => e = .returned (.int .i64 v) ∧ Below wx.heap.size wx w' := fun wx => by rw [hv]; exact rep_Signum K e t _ wx he (by omega)
  have HA := Lib.hid KA; have HB := Lib.hid KB; have HC := Lib.hid KC; have HO := Lib.hid ho
  clear KA KB KC hs hu hv ho
  obtain ⟨lu, hu1⟩ := rt
  obtain ⟨lst, hst1⟩ := rst
  obtain ⟨lso, hso1⟩ := rso
  obtain ⟨ls, hs1⟩ := rs
  clear ru rv ro
  have hPP : Hid (0 < P * P) := show 0 < P * P from Int.mul_pos hP hP
  have hkk : Hid (0 < k * k) := show 0 < k * k from Int.mul_pos hk hk
  by_cases h1 : 0 ≤ s * (u * v)
  · have g1 : decide (0 ≤ s * (u * v)) = true := decide_eq_true h1
    by_cases h2 : s = 0
    · have HF : Hid (rootsZ x y r z t = u * v) := by show _ = _; rw [HG.out]; unfold rootV; rw [if_pos h1, if_pos h2]
      have g2 : (s == 0) = true := by rw [h2]; rfl
      clear h2
      go_enter Tryz.func66, Tryz.ntmps66
      go_wp2_with fail
      refine (HA.out _).mono ?_
      rintro rr w1 ⟨rfl, hb1⟩
      go_wp2_with fail
      refine (HB.out _).mono ?_
      rintro rr w2 ⟨rfl, hb2⟩
      have hB2 := hb1.trans (hb2.mono hb1.size)
      go_wp2_with fail
      refine (HC.out _).mono ?_
      rintro rr w3 ⟨rfl, hb3⟩
      have hB3 := hB2.trans (hb3.mono hB2.size)
      go_wp2_with fail
      go_ret
      exact ⟨ret_int HF.out.symm, hB3⟩
    · have HF : Hid (rootsZ x y r z t = s) := by show _ = _; rw [HG.out]; unfold rootV; rw [if_pos h1, if_neg h2]
      have g2 : (s == 0) = false := by simp [h2]
      clear h2
      go_enter Tryz.func66, Tryz.ntmps66
      go_wp2_with fail
      refine (HA.out _).mono ?_
      rintro rr w1 ⟨rfl, hb1⟩
      go_wp2_with fail
      refine (HB.out _).mono ?_
      rintro rr w2 ⟨rfl, hb2⟩
      have hB2 := hb1.trans (hb2.mono hb1.size)
      go_wp2_with fail
      refine (HC.out _).mono ?_
      rintro rr w3 ⟨rfl, hb3⟩
      have hB3 := hB2.trans (hb3.mono hB2.size)
      go_wp2_with fail
      go_ret
      exact ⟨ret_int HF.out.symm, hB3⟩
  · have g1 : decide (0 ≤ s * (u * v)) = false := decide_eq_false h1
    have HF : Hid (rootsZ x y r z t = s * o) := by show _ = _; rw [HG.out]; unfold rootV; rw [if_neg h1]
    go_enter Tryz.func66, Tryz.ntmps66
    go_wp2_with fail
    refine (HA.out _).mono ?_
    rintro rr w1 ⟨rfl, hb1⟩
    go_wp2_with fail
    refine (HB.out _).mono ?_
    rintro rr w2 ⟨rfl, hb2⟩
    have hB2 := hb1.trans (hb2.mono hb1.size)
    go_wp2_with fail
    refine (HC.out _).mono ?_
    rintro rr w3 ⟨rfl, hb3⟩
    have hB3 := hB2.trans (hb3.mono hB2.size)
    go_wp2_with fail
    refine (rep_TimesR K a a _ _ _ _ _ ha ha (by omega)).mono ?_
    rintro rr w4 ⟨q1, hq1, rfl, hb4⟩
    have hB4 := hB3.trans (hb4.mono hB3.size)
    go_wp2_with fail
    refine (rep_TimesR K b b _ _ _ _ _ hb hb (by omega)).mono ?_
    rintro rr w5 ⟨q2, hq2, rfl, hb5⟩
    have hB5 := hB4.trans (hb5.mono hB4.size)
    go_wp2_with fail
    refine (rep_TimesR (2 * K + 1) q2 c _ _ _ _ _ hq2 (hc.mono (by omega)) (by omega)).mono ?_
    rintro rr w6 ⟨q3, hq3, rfl, hb6⟩
    have hB6 := hB5.trans (hb6.mono hB5.size)
    replace hq3 : Rep (2 * (2 * K + 1) + 1) q3 (y * y * r) (P * P) := hq3.cast hPP.out (by grind)
    go_wp2_with fail
    refine (rep_PlusR (2 * (2 * K + 1) + 1) q1 q3 _ _ _ _ _ (hq1.mono (by omega)) hq3 (by omega)).mono ?_
    rintro rr w7 ⟨q4, hq4, rfl, hb7⟩
    have hB7 := hB6.trans (hb7.mono hB6.size)
    replace hq4 : Rep (2 * (2 * (2 * K + 1) + 1) + 1) q4 (x * x + y * y * r) (P * P) := hq4.cast hPP.out (by grind)
    go_wp2_with fail
    refine (rep_TimesR K d d _ _ _ _ _ hd hd (by omega)).mono ?_
    rintro rr w8 ⟨q5, hq5, rfl, hb8⟩
    have hB8 := hB7.trans (hb8.mono hB7.size)
    go_wp2_with fail
    refine (rep_TimesR (2 * K + 1) q5 e _ _ _ _ _ hq5 (he.mono (by omega)) (by omega)).mono ?_
    rintro rr w9 ⟨q6, hq6, rfl, hb9⟩
    have hB9 := hB8.trans (hb9.mono hB8.size)
    replace hq6 : Rep (2 * (2 * K + 1) + 1) q6 (z * z * t) (P * P) := hq6.cast hPP.out (by grind)
    go_wp2_with fail
    refine (rep_MinusR (2 * (2 * (2 * K + 1) + 1) + 1) q4 q6 _ _ _ _ _ hq4 (hq6.mono (by omega)) (by omega)).mono ?_
    rintro rr w10 ⟨q7, hq7, rfl, hb10⟩
    have hB10 := hB9.trans (hb10.mono hB9.size)
    replace hq7 : Rep (2 * (2 * (2 * (2 * K + 1) + 1) + 1) + 1) q7 (x * x + y * y * r - z * z * t) (P * P) := hq7.cast hPP.out (by grind)
    go_wp2_with fail
    refine (rep_TimesR K a b _ _ _ _ _ ha hb (by omega)).mono ?_
    rintro rr w11 ⟨q8, hq8, rfl, hb11⟩
    have hB11 := hB10.trans (hb11.mono hB10.size)
    go_wp2_with fail
    refine (rep_TimesR (2 * K + 1) ⟨#[50]⟩ q8 _ _ _ _ _ (two_rep.mono (by omega)) hq8 (by omega)).mono ?_
    rintro rr w12 ⟨q9, hq9, rfl, hb12⟩
    have hB12 := hB11.trans (hb12.mono hB11.size)
    replace hq9 : Rep (2 * (2 * K + 1) + 1) q9 (2 * x * y * k) (P * P) := hq9.cast hPP.out (by grind)
    go_wp2_with fail
    refine (ref_Root (2 * (2 * (2 * (2 * K + 1) + 1) + 1) + 1) q7 q9 c _ _ _ _ _ _ _ hq7 (hq9.mono (by omega)) (hc.mono (by omega)) (by omega)).mono ?_
    rintro rr w13 ⟨rfl, hb13⟩
    have hB13 := hB12.trans (hb13.mono hB12.size)
    rw [rootQ_scaled hPP.out hk, ← HO.out]
    go_wp2_with fail
    go_ret
    exact ⟨ret_int HF.out.symm, hB13⟩

end Go.Proofs.YtgkiaonakiflbaaGreatDoor

/- The contracts of metrolabref02's SignRoot, SignRoots, on short texts. -/
namespace Go.Proofs.YtgkiaonakiflbaaGreatDoor
open Go.RowKit

/-- A text with at most 30 bytes at each side of its slash. -/
def shortB (s : Bytes) : Prop := (cutN s).length ≤ 30 ∧ (cutD s).length ≤ 30
def RS (c : ByteArray) (n d : Int) : Prop := RR c n d ∧ wid n ≤ 30 ∧ wid d ≤ 30
theorem shortB.rs {c : ByteArray} (h : shortB c.toList) (hc : chkR c.toList = 0) : RS c (num (cutN c.toList)) (num (cutD c.toList)) := by
  have r := RR.of_chk hc
  obtain ⟨h1, h2⟩ := h
  have e1 := cutN_rtext (num (cutN c.toList)) (num (cutD c.toList))
  have e2 := cutD_rtext (num (cutN c.toList)) (num (cutD c.toList))
  rw [← r.text] at e1 e2
  refine ⟨r, ?_, ?_⟩
  · have := wid_le_length (num (cutN c.toList)); rw [← e1] at this; omega
  · have := wid_le_length (num (cutD c.toList)); rw [← e2] at this; omega
theorem RS.rb {c : ByteArray} {n d : Int} (h : RS c n d) : RB 30 c n d := ⟨h.1.text, h.1.pos, h.1.cop, h.2.1, h.2.2⟩
theorem RS.rep {c : ByteArray} {n d : Int} (h : RS c n d) : Rep 30 c n d := h.rb.rep
theorem sgn_lt {n : Int} : sgn n < 0 ↔ n < 0 := by
  unfold sgn
  repeat' split
  all_goals omega
theorem firstErr_all {f : Bytes → Int} : ∀ {ss : List ByteArray}, firstErr f ss = 0 → ∀ s ∈ ss, f s.toList = 0
  | [], _, _, hs => by cases hs
  | a :: t, h, s, hs => by
    unfold firstErr at h
    by_cases ha : f a.toList = 0
    · rw [if_pos ha] at h
      rcases List.mem_cons.1 hs with e | e
      · rw [e]; exact ha
      · exact firstErr_all h s e
    · rw [if_neg ha] at h; exact absurd h ha

/-- The signs of sums with roots, from numerators and denominators. -/
def rootOf (an aq bn bq cn cq : Int) : Int := rootZ (an * bq * cq) (bn * aq) (cn * cq)
def rootsOf (an aq bn bq cn cq dn dq en eq : Int) : Int := rootsZ (an * bq * cq * dq * eq) (bn * aq * dq * eq) (cn * cq) (dn * aq * bq * cq) (en * eq)
def signRootR (a b c : ByteArray) : Int × Int :=
  if firstErr chkR [a, b, c] = 0 then (if numOf c.toList < 0 then (0, 2) else (rootOf (numOf a.toList) (denOf a.toList) (numOf b.toList) (denOf b.toList) (numOf c.toList) (denOf c.toList), 0)) else (0, firstErr chkR [a, b, c])
def signRootsR (a b c d e : ByteArray) : Int × Int :=
  if firstErr chkR [a, b, c, d, e] = 0 then (if numOf c.toList < 0 ∨ numOf e.toList < 0 then (0, 2) else (rootsOf (numOf a.toList) (denOf a.toList) (numOf b.toList) (denOf b.toList) (numOf c.toList) (denOf c.toList) (numOf d.toList) (denOf d.toList) (numOf e.toList) (denOf e.toList), 0)) else (0, firstErr chkR [a, b, c, d, e])

set_option maxRecDepth 100000 in
set_option maxHeartbeats 2000000 in
theorem ref_SignRoot (a b c : ByteArray) (w : World) (hS : ∀ s ∈ [a, b, c], shortB s.toList ∧ s.size ≤ 1000000) :
    Calls Tryz.prog 15 #[.string a, .string b, .string c] w (OpI (signRootR a b c) w) := by
  have HS := Lib.hid hS; clear hS
  go_enter Tryz.func15, Tryz.ntmps15
  go_wp2_with fail
  have hrow : Row (w.alloc (.cells #[.string a, .string b, .string c] 22)) w.heap.size 0 (strs [a, b, c]) := row_new w _ _
  have hB : Below w.heap.size w (w.alloc (.cells #[.string a, .string b, .string c] 22)) := (Below.refl w.heap.size w).alloc (Nat.le_refl _) _
  generalize w.alloc (.cells #[.string a, .string b, .string c] 22) = W1 at *
  obtain ⟨bb, hbb⟩ : ∃ bb, bb = w.heap.size := ⟨_, rfl⟩
  rw [← hbb] at hrow hB ⊢
  have Hbb := Lib.hid hbb; clear hbb
  go_loopw [16] (fun i wr => ∃ k : Nat, k ≤ 3 ∧ i = .int .i64 (k : Int) ∧ Below bb w wr ∧ Row wr bb 0 (strs [a, b, c]) ∧ Hid (firstErr chkR [a, b, c] = firstErr chkR ([a, b, c].drop k))) (fun i _ => 3 - (intOf i).toNat)
  case atStart => exact ⟨0, by omega, rfl, hB, hrow, rfl⟩
  case round =>
    obtain ⟨k, hk, rfl, hbr, hr, hfe⟩ := hrel
    by_cases hlt : k < 3
    · have hkl : k < [a, b, c].length := hlt
      obtain ⟨s, hs⟩ : ∃ s, s = [a, b, c][k] := ⟨_, rfl⟩
      have hcell : wr.cell? ⟨bb, k, none⟩ = some (.string s) := by
        have := hr.2 k (by simpa [strs] using hkl)
        rw [Nat.zero_add] at this
        rw [this, hs]; unfold strs; rw [List.getElem_map]
      have hsz : s.size ≤ 140737488300000 := by have := (HS.out s (by rw [hs]; exact List.getElem_mem hkl)).2; omega
      have hdr := firstErr_drop (f := chkR) hkl
      rw [← hs] at hdr
      have HD := Lib.hid hdr
      clear hs hdr
      by_cases he : chkR s.toList = 0
      · have g1 : (chkR s.toList != 0) = false := by simp [he]
        have He := Lib.hid he; clear he
        go_wp2_with (go_at_call 48; refine (ref_CheckR _ _ hsz).mono ?_; rintro e w' ⟨rfl, hb1⟩)
        go_roundw
        case rel => exact ⟨k + 1, by omega, by go_num, hbr.trans (hb1.mono (by have := hr.1; omega)), hr.below hb1, by
            refine Eq.trans hfe.out ?_
            rw [HD.out, if_pos He.out]⟩
        case measure => simp [intOf]; omega
      · have g1 : (chkR s.toList != 0) = true := by simp [he]
        have hfin : signRootR a b c = (0, chkR s.toList) := by
          have h3 := hfe.out
          rw [HD.out, if_neg he] at h3
          unfold signRootR
          rw [if_neg (by rw [h3]; exact he), h3]
        have HF := Lib.hid hfin; clear hfin he
        go_wp2_with (go_at_call 48; refine (ref_CheckR _ _ hsz).mono ?_; rintro e w' ⟨rfl, hb1⟩)
        go_ret2
        rw [HF.out]
        refine ⟨rfl, ?_⟩
        rw [← Hbb.out]; exact hbr.trans (hb1.mono (by have := hr.1; omega))
    · obtain rfl : k = 3 := by omega
      have hz : firstErr chkR [a, b, c] = 0 := by rw [hfe.out]; rfl
      have HZ := Lib.hid hz; clear hz hlt hk hfe
      have hall := firstErr_all HZ.out
      have ra := (HS.out a (by simp)).1.rs (hall a (by simp))
      have rb := (HS.out b (by simp)).1.rs (hall b (by simp))
      have rc := (HS.out c (by simp)).1.rs (hall c (by simp))
      clear hall
      have na : numOf a.toList = num (cutN a.toList) := rfl
      have da : denOf a.toList = num (cutD a.toList) := rfl
      have nb : numOf b.toList = num (cutN b.toList) := rfl
      have db : denOf b.toList = num (cutD b.toList) := rfl
      have nc : numOf c.toList = num (cutN c.toList) := rfl
      have dc : denOf c.toList = num (cutD c.toList) := rfl
      have HG : signRootR a b c = if numOf c.toList < 0 then (0, 2) else (rootOf (numOf a.toList) (denOf a.toList) (numOf b.toList) (denOf b.toList) (numOf c.toList) (denOf c.toList), 0) := by unfold signRootR; rw [if_pos HZ.out]
      rw [na, da, nb, db, nc, dc] at HG
      clear na da nb db nc dc
      replace HG := Lib.hid HG
      generalize num (cutN a.toList) = an at *
      generalize num (cutD a.toList) = aq at *
      generalize num (cutN b.toList) = bn at *
      generalize num (cutD b.toList) = bq at *
      generalize num (cutN c.toList) = cn at *
      generalize num (cutD c.toList) = cq at *
      clear HS HZ
      have hbl : bb < wr.heap.size := hr.1
      clear hr hB hrow
      by_cases h1 : cn < 0
      · have g1 : decide (sgn cn < 0) = true := decide_eq_true (sgn_lt.2 h1)
        have HF : Hid (signRootR a b c = (0, 2)) := by show _ = _; rw [HG.out, if_pos h1]
        clear h1
        go_wp2_with fail
        refine (rep_Signum 30 c _ _ _ rc.rep (by omega)).mono ?_
        rintro rr w2 ⟨rfl, hb2⟩
        have hB2 := hbr.trans (hb2.mono (by omega))
        go_wp2_with fail
        go_ret2
        rw [HF.out]
        exact ⟨rfl, by rw [← Hbb.out]; exact hB2⟩
      · have g1 : decide (sgn cn < 0) = false := decide_eq_false (fun h => h1 (sgn_lt.1 h))
        have HF : Hid (signRootR a b c = (rootOf an aq bn bq cn cq, 0)) := by show _ = _; rw [HG.out, if_neg h1]
        clear h1
        have pq := rb.1.pos
        have pc := rc.1.pos
        have pP : 0 < aq * bq * cq := Int.mul_pos (Int.mul_pos ra.1.pos pq) pc
        have qa : Rep 30 a (an * bq * cq) (aq * bq * cq) := ra.rep.cast pP (by grind)
        have qb : Rep 30 b (bn * aq * cq) (aq * bq * cq) := rb.rep.cast pP (by grind)
        have qc : Rep 30 c (cn * cq) (cq * cq) := rc.rep.cast (Int.mul_pos pc pc) (by grind)
        have key := fun wx => ref_Root 30 a b c _ _ _ _ _ _ wx qa qb qc (by omega)
        rw [rootQ_scaled pP pc] at key
        have KEY := Lib.hid key; clear key qa qb qc pP pq pc
        go_wp2_with fail
        refine (rep_Signum 30 c _ _ _ rc.rep (by omega)).mono ?_
        rintro rr w2 ⟨rfl, hb2⟩
        have hB2 := hbr.trans (hb2.mono (by omega))
        go_wp2_with fail
        refine (KEY.out _).mono ?_
        rintro rr w3 ⟨rfl, hb3⟩
        have hB3 := hB2.trans (hb3.mono (by have := hB2.size; have := hb2.size; omega))
        go_wp2_with fail
        go_ret2
        rw [HF.out]
        exact ⟨rfl, by rw [← Hbb.out]; exact hB3⟩

set_option maxRecDepth 100000 in
set_option maxHeartbeats 2000000 in
theorem ref_SignRoots (a b c d e : ByteArray) (w : World) (hS : ∀ s ∈ [a, b, c, d, e], shortB s.toList ∧ s.size ≤ 1000000) :
    Calls Tryz.prog 17 #[.string a, .string b, .string c, .string d, .string e] w (OpI (signRootsR a b c d e) w) := by
  have HS := Lib.hid hS; clear hS
  go_enter Tryz.func17, Tryz.ntmps17
  go_wp2_with fail
  have hrow : Row (w.alloc (.cells #[.string a, .string b, .string c, .string d, .string e] 22)) w.heap.size 0 (strs [a, b, c, d, e]) := row_new w _ _
  have hB : Below w.heap.size w (w.alloc (.cells #[.string a, .string b, .string c, .string d, .string e] 22)) := (Below.refl w.heap.size w).alloc (Nat.le_refl _) _
  generalize w.alloc (.cells #[.string a, .string b, .string c, .string d, .string e] 22) = W1 at *
  obtain ⟨bb, hbb⟩ : ∃ bb, bb = w.heap.size := ⟨_, rfl⟩
  rw [← hbb] at hrow hB ⊢
  have Hbb := Lib.hid hbb; clear hbb
  go_loopw [22] (fun i wr => ∃ k : Nat, k ≤ 5 ∧ i = .int .i64 (k : Int) ∧ Below bb w wr ∧ Row wr bb 0 (strs [a, b, c, d, e]) ∧ Hid (firstErr chkR [a, b, c, d, e] = firstErr chkR ([a, b, c, d, e].drop k))) (fun i _ => 5 - (intOf i).toNat)
  case atStart => exact ⟨0, by omega, rfl, hB, hrow, rfl⟩
  case round =>
    obtain ⟨k, hk, rfl, hbr, hr, hfe⟩ := hrel
    by_cases hlt : k < 5
    · have hkl : k < [a, b, c, d, e].length := hlt
      obtain ⟨s, hs⟩ : ∃ s, s = [a, b, c, d, e][k] := ⟨_, rfl⟩
      have hcell : wr.cell? ⟨bb, k, none⟩ = some (.string s) := by
        have := hr.2 k (by simpa [strs] using hkl)
        rw [Nat.zero_add] at this
        rw [this, hs]; unfold strs; rw [List.getElem_map]
      have hsz : s.size ≤ 140737488300000 := by have := (HS.out s (by rw [hs]; exact List.getElem_mem hkl)).2; omega
      have hdr := firstErr_drop (f := chkR) hkl
      rw [← hs] at hdr
      have HD := Lib.hid hdr
      clear hs hdr
      by_cases he : chkR s.toList = 0
      · have g1 : (chkR s.toList != 0) = false := by simp [he]
        have He := Lib.hid he; clear he
        go_wp2_with (go_at_call 48; refine (ref_CheckR _ _ hsz).mono ?_; rintro e w' ⟨rfl, hb1⟩)
        go_roundw
        case rel => exact ⟨k + 1, by omega, by go_num, hbr.trans (hb1.mono (by have := hr.1; omega)), hr.below hb1, by
            refine Eq.trans hfe.out ?_
            rw [HD.out, if_pos He.out]⟩
        case measure => simp [intOf]; omega
      · have g1 : (chkR s.toList != 0) = true := by simp [he]
        have hfin : signRootsR a b c d e = (0, chkR s.toList) := by
          have h3 := hfe.out
          rw [HD.out, if_neg he] at h3
          unfold signRootsR
          rw [if_neg (by rw [h3]; exact he), h3]
        have HF := Lib.hid hfin; clear hfin he
        go_wp2_with (go_at_call 48; refine (ref_CheckR _ _ hsz).mono ?_; rintro e w' ⟨rfl, hb1⟩)
        go_ret2
        rw [HF.out]
        refine ⟨rfl, ?_⟩
        rw [← Hbb.out]; exact hbr.trans (hb1.mono (by have := hr.1; omega))
    · obtain rfl : k = 5 := by omega
      have hz : firstErr chkR [a, b, c, d, e] = 0 := by rw [hfe.out]; rfl
      have HZ := Lib.hid hz; clear hz hlt hk hfe
      have hall := firstErr_all HZ.out
      have ra := (HS.out a (by simp)).1.rs (hall a (by simp))
      have rb := (HS.out b (by simp)).1.rs (hall b (by simp))
      have rc := (HS.out c (by simp)).1.rs (hall c (by simp))
      have rd := (HS.out d (by simp)).1.rs (hall d (by simp))
      have re := (HS.out e (by simp)).1.rs (hall e (by simp))
      clear hall
      have na : numOf a.toList = num (cutN a.toList) := rfl
      have da : denOf a.toList = num (cutD a.toList) := rfl
      have nb : numOf b.toList = num (cutN b.toList) := rfl
      have db : denOf b.toList = num (cutD b.toList) := rfl
      have nc : numOf c.toList = num (cutN c.toList) := rfl
      have dc : denOf c.toList = num (cutD c.toList) := rfl
      have nd : numOf d.toList = num (cutN d.toList) := rfl
      have dd : denOf d.toList = num (cutD d.toList) := rfl
      have ne : numOf e.toList = num (cutN e.toList) := rfl
      have de : denOf e.toList = num (cutD e.toList) := rfl
      have HG : signRootsR a b c d e = if numOf c.toList < 0 ∨ numOf e.toList < 0 then (0, 2) else (rootsOf (numOf a.toList) (denOf a.toList) (numOf b.toList) (denOf b.toList) (numOf c.toList) (denOf c.toList) (numOf d.toList) (denOf d.toList) (numOf e.toList) (denOf e.toList), 0) := by unfold signRootsR; rw [if_pos HZ.out]
      rw [na, da, nb, db, nc, dc, nd, dd, ne, de] at HG
      clear na da nb db nc dc nd dd ne de
      replace HG := Lib.hid HG
      generalize num (cutN a.toList) = an at *
      generalize num (cutD a.toList) = aq at *
      generalize num (cutN b.toList) = bn at *
      generalize num (cutD b.toList) = bq at *
      generalize num (cutN c.toList) = cn at *
      generalize num (cutD c.toList) = cq at *
      generalize num (cutN d.toList) = dn at *
      generalize num (cutD d.toList) = dq at *
      generalize num (cutN e.toList) = en at *
      generalize num (cutD e.toList) = eq at *
      clear HS HZ
      have hbl : bb < wr.heap.size := hr.1
      clear hr hB hrow
      by_cases h1 : cn < 0
      · have g1 : decide (sgn cn < 0) = true := decide_eq_true (sgn_lt.2 h1)
        have HF : Hid (signRootsR a b c d e = (0, 2)) := by show _ = _; rw [HG.out, if_pos (.inl h1)]
        clear h1
        go_wp2_with fail
        refine (rep_Signum 30 c _ _ _ rc.rep (by omega)).mono ?_
        rintro rr w2 ⟨rfl, hb2⟩
        have hB2 := hbr.trans (hb2.mono (by omega))
        go_wp2_with fail
        go_ret2
        rw [HF.out]
        exact ⟨rfl, by rw [← Hbb.out]; exact hB2⟩
      · have g1 : decide (sgn cn < 0) = false := decide_eq_false (fun h => h1 (sgn_lt.1 h))
        by_cases h2 : en < 0
        · have g2 : decide (sgn en < 0) = true := decide_eq_true (sgn_lt.2 h2)
          have HF : Hid (signRootsR a b c d e = (0, 2)) := by show _ = _; rw [HG.out, if_pos (.inr h2)]
          clear h1 h2
          go_wp2_with fail
          refine (rep_Signum 30 c _ _ _ rc.rep (by omega)).mono ?_
          rintro rr w2 ⟨rfl, hb2⟩
          have hB2 := hbr.trans (hb2.mono (by omega))
          go_wp2_with fail
          refine (rep_Signum 30 e _ _ _ re.rep (by omega)).mono ?_
          rintro rr w3 ⟨rfl, hb3⟩
          have hB3 := hB2.trans (hb3.mono (by have := hB2.size; have := hb2.size; omega))
          go_wp2_with fail
          go_ret2
          rw [HF.out]
          exact ⟨rfl, by rw [← Hbb.out]; exact hB3⟩
        · have g2 : decide (sgn en < 0) = false := decide_eq_false (fun h => h2 (sgn_lt.1 h))
          have HF : Hid (signRootsR a b c d e = (rootsOf an aq bn bq cn cq dn dq en eq, 0)) := by show _ = _; rw [HG.out, if_neg (by omega)]
          clear h1 h2
          have pa := ra.1.pos
          have pb := rb.1.pos
          have pc := rc.1.pos
          have pd := rd.1.pos
          have pe := re.1.pos
          have pP : 0 < aq * bq * cq * dq * eq := Int.mul_pos (Int.mul_pos (Int.mul_pos (Int.mul_pos pa pb) pc) pd) pe
          have qa : Rep 30 a (an * bq * cq * dq * eq) (aq * bq * cq * dq * eq) := ra.rep.cast pP (by grind)
          have qb : Rep 30 b (bn * aq * dq * eq * cq) (aq * bq * cq * dq * eq) := rb.rep.cast pP (by grind)
          have qc : Rep 30 c (cn * cq) (cq * cq) := rc.rep.cast (Int.mul_pos pc pc) (by grind)
          have qd : Rep 30 d (dn * aq * bq * cq * eq) (aq * bq * cq * dq * eq) := rd.rep.cast pP (by grind)
          have qe : Rep 30 e (en * eq) (eq * eq) := re.rep.cast (Int.mul_pos pe pe) (by grind)
          have key := fun wx => ref_Roots 30 a b c d e _ _ _ _ _ _ _ _ wx pP pc pe qa qb qc qd qe (by omega)
          have KEY := Lib.hid key; clear key qa qb qc qd qe pP pa pb pc pd pe
          go_wp2_with fail
          refine (rep_Signum 30 c _ _ _ rc.rep (by omega)).mono ?_
          rintro rr w2 ⟨rfl, hb2⟩
          have hB2 := hbr.trans (hb2.mono (by omega))
          go_wp2_with fail
          refine (rep_Signum 30 e _ _ _ re.rep (by omega)).mono ?_
          rintro rr w3 ⟨rfl, hb3⟩
          have hB3 := hB2.trans (hb3.mono (by have := hB2.size; have := hb2.size; omega))
          go_wp2_with fail
          refine (KEY.out _).mono ?_
          rintro rr w4 ⟨rfl, hb4⟩
          have hB4 := hB3.trans (hb4.mono (by have := hB3.size; have := hb2.size; have := hb3.size; omega))
          go_wp2_with fail
          go_ret2
          rw [HF.out]
          exact ⟨rfl, by rw [← Hbb.out]; exact hB4⟩

end Go.Proofs.YtgkiaonakiflbaaGreatDoor

/- The contracts of ratio's root, SignRoots, SignRoot, on short texts. -/
namespace Go.Proofs.YtgkiaonakiflbaaGreatDoor
open Go.RowKit

theorem mulL : ∀ (zs : List Int) (v : Int) (j : Nat), wid v ≤ j → j + (zs.map wid).sum ≤ 1024 → mulE 0 v zs = 0 ∧ mulV 0 v zs = zs.foldl (fun a b => a * b) v ∧ wid (zs.foldl (fun a b => a * b) v) ≤ j + (zs.map wid).sum
  | [], v, j, hv, _ => ⟨rfl, rfl, by simpa using hv⟩
  | z :: t, v, j, hv, hb => by
    have h1 := wid_mul v z
    rw [List.map_cons, List.sum_cons] at hb ⊢
    have hw : wid (v * z) ≤ 1024 := by omega
    obtain ⟨i1, i2, i3⟩ := mulL t (v * z) (j + wid z) (by omega) (by omega)
    refine ⟨?_, ?_, ?_⟩
    · show mulE (de 0 (v * z)) (dv 0 (v * z)) t = 0
      rw [de_ok hw, dv_ok hw]; exact i1
    · show mulV (de 0 (v * z)) (dv 0 (v * z)) t = _
      rw [de_ok hw, dv_ok hw]; exact i2
    · rw [List.foldl_cons]; omega

/-- A product that is not too long. -/
theorem mul_ok (s : Nat) (ss : List ByteArray) (zs : List Int) (n : Nat) (T : TypeId) (w : World) (hE : Env w) (hs : St w s 0) (hz : RIs ss zs) (hn : ss.length = n) (hn1 : n ≤ 4096) (P : Int) (hP : zs.foldl (fun a b => a * b) 1 = P) (hb : 1 + (zs.map wid).sum ≤ 1024) :
    Calls Tryz.prog 61 #[.pointer (some ⟨s, 0, none⟩), .slice (some ⟨w.heap.size, 0, none⟩) n n] (w.alloc (.cells (strs ss).toArray T)) (Did s 0 P w) := by
  obtain ⟨h1, h2, h3⟩ := mulL zs 1 1 wid_one hb
  have key := mul_new s 0 ss zs n T w hE hs hz hn hn1
  rw [h1, h2, hP] at key
  exact key
theorem add_ok (s : Nat) (x y : Int) (a b : ByteArray) (w : World) (hE : Env w) (hs : St w s 0) (ha : RI a x) (hb : RI b y) (hw : wid (x + y) ≤ 1024) :
    Calls Tryz.prog 65 #[.pointer (some ⟨s, 0, none⟩), .string a, .string b] w (Did s 0 (x + y) w) := by
  have key := sums_add s 0 x y a b w hE hs ha hb
  rw [de_ok hw, dv_ok hw] at key
  exact key
theorem sub_ok (s : Nat) (x y : Int) (a b : ByteArray) (w : World) (hE : Env w) (hs : St w s 0) (ha : RI a x) (hb : RI b y) (hw : wid (x - y) ≤ 1024) :
    Calls Tryz.prog 64 #[.pointer (some ⟨s, 0, none⟩), .string a, .string b] w (Did s 0 (x - y) w) := by
  have key := sums_sub s 0 x y a b w hE hs ha hb
  rw [de_ok hw, dv_ok hw] at key
  exact key
theorem sign_ok (s : Nat) (z : Int) (a : ByteArray) (w : World) (hs : St w s 0) (ha : RI a z) :
    Calls Tryz.prog 63 #[.pointer (some ⟨s, 0, none⟩), .string a] w fun r w' => r = .returned (.int .i64 (sgn z)) ∧ w.grownBy w' (some s) ∧ St w' s 0 := sums_sign s 0 z a w hs ha

/-- A sign, and no error. -/
def Signs (s : Nat) (v : Int) (w : World) (r : Ending) (w' : World) : Prop := r = .returned (.int .i64 v) ∧ w.grownBy w' (some s) ∧ St w' s 0

set_option maxRecDepth 100000 in
set_option maxHeartbeats 1000000 in
theorem sums_root (s : Nat) (A B C : Int) (a b c : ByteArray) (w : World) (hE : Env w) (hs : St w s 0) (ha : RI a A) (hb : RI b B) (hc : RI c C) (h1 : wid A ≤ 400) (h2 : wid B ≤ 400) (h3 : wid C ≤ 100) :
    Calls Tryz.prog 62 #[.pointer (some ⟨s, 0, none⟩), .string a, .string b, .string c] w (Signs s (rootZ A B C) w) := by
  have b1 := wid_mul A A
  have b2 := wid_mul B B
  have b3 := wid_mul (B * B) C
  have b4 := wid_sub (A * A) (B * B * C)
  have u1 : wid (A * A) ≤ 1000 := by omega
  have u2 : wid (B * B * C) ≤ 1000 := by omega
  have u3 : wid (A * A - B * B * C) ≤ 1024 := by omega
  clear b1 b2 b3 b4 u1 u2
  have m1 : 1 + (([A, A] : List Int).map wid).sum ≤ 1024 := by simp; omega
  have m2 : 1 + (([B, B, C] : List Int).map wid).sum ≤ 1024 := by simp; omega
  have p1 : ([A, A] : List Int).foldl (fun a b => a * b) 1 = A * A := by simp
  have p2 : ([B, B, C] : List Int).foldl (fun a b => a * b) 1 = B * B * C := by simp
  have M1 := Lib.hid m1; have M2 := Lib.hid m2; have P1 := Lib.hid p1; have P2 := Lib.hid p2; have U3 := Lib.hid u3
  clear m1 m2 p1 p2 u3 h1 h2 h3
  obtain ⟨x, hx⟩ : ∃ x, x = sgn A := ⟨_, rfl⟩
  obtain ⟨u, hu⟩ : ∃ u, u = sgn B := ⟨_, rfl⟩
  obtain ⟨v, hv⟩ : ∃ v, v = sgn C := ⟨_, rfl⟩
  obtain ⟨o, ho⟩ : ∃ o, o = sgn (A * A - B * B * C) := ⟨_, rfl⟩
  have rs : -1 ≤ x ∧ x ≤ 1 := by rw [hx]; exact sgn_range _
  have ru : -1 ≤ u ∧ u ≤ 1 := by rw [hu]; exact sgn_range _
  have rv : -1 ≤ v ∧ v ≤ 1 := by rw [hv]; exact sgn_range _
  have ro : -1 ≤ o ∧ o ≤ 1 := by rw [ho]; exact sgn_range _
  have rt := mul_range ru rv
  have rst := mul_range rs rt
  have rso := mul_range rs ro
  have HG : Hid (rootZ A B C = rootV x (u * v) o) := by show _ = _; unfold rootZ; rw [hx, hu, hv, ho]
  have HX := Lib.hid hx; have HU := Lib.hid hu; have HV := Lib.hid hv; have HO := Lib.hid ho
  clear hx hu hv ho
  obtain ⟨lu, hu1⟩ := rt
  obtain ⟨lst, hst1⟩ := rst
  obtain ⟨lso, hso1⟩ := rso
  obtain ⟨ls, hs1⟩ := rs
  clear ru rv ro
  by_cases h1 : 0 ≤ x * (u * v)
  · have g1 : decide (0 ≤ x * (u * v)) = true := decide_eq_true h1
    by_cases h2 : x = 0
    · have HF : Hid (rootZ A B C = u * v) := by show _ = _; rw [HG.out]; unfold rootV; rw [if_pos h1, if_pos h2]
      have g2 : (x != 0) = false := by rw [h2]; rfl
      clear h2
      go_enter Tryz.func62, Tryz.ntmps62
      go_wp2_with fail
      refine (sign_ok s A a _ hs ha).mono ?_
      rintro rr w1 ⟨rfl, hg1, hs1⟩
      rw [← HX.out]
      go_wp2_with fail
      refine (sign_ok s B b _ hs1 hb).mono ?_
      rintro rr w2 ⟨rfl, hg2, hs2⟩
      rw [← HU.out]
      have hG2 := only_trans hg1 hg2
      go_wp2_with fail
      refine (sign_ok s C c _ hs2 hc).mono ?_
      rintro rr w3 ⟨rfl, hg3, hs3⟩
      rw [← HV.out]
      have hG3 := only_trans hG2 hg3
      go_wp2_with fail
      go_ret
      exact ⟨ret_int HF.out.symm, hG3, hs3⟩
    · have HF : Hid (rootZ A B C = x) := by show _ = _; rw [HG.out]; unfold rootV; rw [if_pos h1, if_neg h2]
      have g2 : (x != 0) = true := by simp [h2]
      clear h2
      go_enter Tryz.func62, Tryz.ntmps62
      go_wp2_with fail
      refine (sign_ok s A a _ hs ha).mono ?_
      rintro rr w1 ⟨rfl, hg1, hs1⟩
      rw [← HX.out]
      go_wp2_with fail
      refine (sign_ok s B b _ hs1 hb).mono ?_
      rintro rr w2 ⟨rfl, hg2, hs2⟩
      rw [← HU.out]
      have hG2 := only_trans hg1 hg2
      go_wp2_with fail
      refine (sign_ok s C c _ hs2 hc).mono ?_
      rintro rr w3 ⟨rfl, hg3, hs3⟩
      rw [← HV.out]
      have hG3 := only_trans hG2 hg3
      go_wp2_with fail
      go_ret
      exact ⟨ret_int HF.out.symm, hG3, hs3⟩
  · have g1 : decide (0 ≤ x * (u * v)) = false := decide_eq_false h1
    have HF : Hid (rootZ A B C = x * o) := by show _ = _; rw [HG.out]; unfold rootV; rw [if_neg h1]
    go_enter Tryz.func62, Tryz.ntmps62
    go_wp2_with fail
    refine (sign_ok s A a _ hs ha).mono ?_
    rintro rr w1 ⟨rfl, hg1, hs1⟩
    rw [← HX.out]
    go_wp2_with fail
    refine (sign_ok s B b _ hs1 hb).mono ?_
    rintro rr w2 ⟨rfl, hg2, hs2⟩
    rw [← HU.out]
    have hG2 := only_trans hg1 hg2
    go_wp2_with fail
    refine (sign_ok s C c _ hs2 hc).mono ?_
    rintro rr w3 ⟨rfl, hg3, hs3⟩
    rw [← HV.out]
    have hG3 := only_trans hG2 hg3
    go_wp2_with fail
    have hE3 := hE.only2 hG3 hs3.far
    refine (mul_ok s [a, a] [A, A] 2 _ _ hE3 hs3 ⟨ha, ha, trivial⟩ rfl (by omega) _ P1.out M1.out).mono ?_
    rintro rr w4 ⟨q1, hq1, rfl, hg4, hs4⟩
    have hG4 := only_trans hG3 hg4
    have hE4 := hE.only2 hG4 hs4.far
    go_wp2_with fail
    refine (mul_ok s [b, b, c] [B, B, C] 3 _ _ hE4 hs4 ⟨hb, hb, hc, trivial⟩ rfl (by omega) _ P2.out M2.out).mono ?_
    rintro rr w5 ⟨q2, hq2, rfl, hg5, hs5⟩
    have hG5 := only_trans hG4 hg5
    have hE5 := hE.only2 hG5 hs5.far
    go_wp2_with fail
    refine (sub_ok s _ _ q1 q2 _ hE5 hs5 hq1 hq2 U3.out).mono ?_
    rintro rr w6 ⟨q3, hq3, rfl, hg6, hs6⟩
    have hG6 := only_trans hG5 hg6
    go_wp2_with fail
    refine (sign_ok s _ q3 _ hs6 hq3).mono ?_
    rintro rr w7 ⟨rfl, hg7, hs7⟩
    rw [← HO.out]
    have hG7 := only_trans hG6 hg7
    go_wp2_with fail
    go_ret
    exact ⟨ret_int HF.out.symm, hG7, hs7⟩

end Go.Proofs.YtgkiaonakiflbaaGreatDoor

/- The contracts of ratio's SignRoots, SignRoot, on short texts. -/
namespace Go.Proofs.YtgkiaonakiflbaaGreatDoor
open Go.RowKit

theorem RR.first {c : ByteArray} {n d : Int} (h : RR c n d) : 0 < c.size ∧ ∀ h0 : 0 < c.size, (((c[0].toNat : Int) == 45) = decide (n < 0)) := by
  have hne : c.toList ≠ [] := by rw [h.text]; unfold rtext; intro e; exact itoa_ne_nil n (List.append_eq_nil_iff.1 e).1
  have h0 : 0 < c.size := by rw [← toList_length]; exact List.length_pos_iff.2 hne
  refine ⟨h0, fun h0 => ?_⟩
  have hh : c.toList.head? = (Lib.itoa n).head? := by rw [h.text]; unfold rtext; exact head_append (itoa_ne_nil n)
  by_cases hn : n < 0
  · rw [decide_eq_true hn, beq_iff_eq]
    have h1 := (itoa_head n).2 hn
    rw [← hh, head_byte c h0, Option.some.injEq] at h1
    rw [h1]; rfl
  · rw [decide_eq_false hn, beq_eq_false_iff_ne]
    intro e
    exact hn ((itoa_head n).1 (by rw [← hh]; exact head_45 e))

theorem fits_short {ss : List ByteArray} (h : ∀ s ∈ ss, shortB s.toList ∧ s.size ≤ 1000000) : FitsR ss := fun s hs => by have := (h s hs).2; omega

theorem two_ri : RI ⟨#[50]⟩ 2 := ⟨by unfold IsI Is; rw [itoa_two]; exact toList_lit _, by have := wid_two; omega⟩

set_option maxRecDepth 100000 in
theorem roots_err (a b c d e : ByteArray) (w : World) (hE : Env w) (hS : ∀ s ∈ [a, b, c, d, e], shortB s.toList ∧ s.size ≤ 1000000) (hne : firstErr chkR [a, b, c, d, e] ≠ 0) :
    Calls Tryz.prog 16 #[.string a, .string b, .string c, .string d, .string e] w (OpI (signRootsR a b c d e) w) := by
  have hf := fits_short hS
  have hgoal : signRootsR a b c d e = (0, firstErr chkR [a, b, c, d, e]) := by unfold signRootsR; rw [if_neg hne]
  rw [hgoal]
  have t1 : (firstErr chkR [a, b, c, d, e] != 0) = true := by simp [hne]
  clear hgoal hS
  go_enter Tryz.func16, Tryz.ntmps16
  go_wp2_with fail
  refine (checks_new [a, b, c, d, e] _ _ 5 rfl hE (by omega) hf).mono ?_
  rintro e w1 ⟨rfl, hb1⟩
  generalize firstErr chkR [a, b, c, d, e] = er at *
  go_wp2_with fail
  go_ret2
  exact ⟨rfl, hb1⟩

set_option maxRecDepth 100000 in
set_option maxHeartbeats 1000000 in
theorem roots_neg (a b c d e : ByteArray) (an aq bn bq cn cq dn dq en eq : Int) (w : World) (hE : Env w) (_ha : RS a an aq) (_hb : RS b bn bq) (hc : RS c cn cq) (_hd : RS d dn dq) (he : RS e en eq) (hf : FitsR [a, b, c, d, e]) (hz : firstErr chkR [a, b, c, d, e] = 0) (hn : cn < 0 ∨ en < 0) :
    Calls Tryz.prog 16 #[.string a, .string b, .string c, .string d, .string e] w (OpI (0, 2) w) := by
  have HZ := Lib.hid hz; clear hz
  obtain ⟨c0, c1⟩ := hc.1.first
  obtain ⟨e0, e1⟩ := he.1.first
  have c2 := c1 c0
  have e2 := e1 e0
  clear c1 e1
  by_cases h1 : cn < 0
  · rw [decide_eq_true h1] at c2
    clear e2 hn h1
    go_enter Tryz.func16, Tryz.ntmps16
    go_wp2_with fail
    refine (checks_new [a, b, c, d, e] _ _ 5 rfl hE (by omega) hf).mono ?_
    rintro er w1 ⟨rfl, hb1⟩
    rw [HZ.out]
    go_wp2_with fail
    go_ret2
    exact ⟨rfl, hb1⟩
  · rw [decide_eq_false h1] at c2
    rw [decide_eq_true (show en < 0 by omega)] at e2
    clear hn h1
    go_enter Tryz.func16, Tryz.ntmps16
    go_wp2_with fail
    refine (checks_new [a, b, c, d, e] _ _ 5 rfl hE (by omega) hf).mono ?_
    rintro er w1 ⟨rfl, hb1⟩
    rw [HZ.out]
    go_wp2_with fail
    go_ret2
    exact ⟨rfl, hb1⟩

set_option maxRecDepth 100000 in
set_option maxHeartbeats 4000000 in
theorem roots_right (a b c d e : ByteArray) (an aq bn bq cn cq dn dq en eq : Int) (w : World) (hE : Env w) (ha : RS a an aq) (hb : RS b bn bq) (hc : RS c cn cq) (hd : RS d dn dq) (he : RS e en eq) (hf : FitsR [a, b, c, d, e]) (hz : firstErr chkR [a, b, c, d, e] = 0) (hn1 : ¬ cn < 0) (hn2 : ¬ en < 0) :
    Calls Tryz.prog 16 #[.string a, .string b, .string c, .string d, .string e] w (OpI (rootsOf an aq bn bq cn cq dn dq en eq, 0) w) := by
  have HZ := Lib.hid hz; clear hz
  obtain ⟨c0, c1⟩ := hc.1.first
  obtain ⟨e0, e1⟩ := he.1.first
  have c2 := c1 c0
  have e2 := e1 e0
  rw [decide_eq_false hn1] at c2
  rw [decide_eq_false hn2] at e2
  clear c1 e1 hn1 hn2
  obtain ⟨ra, wan, waq⟩ := ha
  obtain ⟨rb, wbn, wbq⟩ := hb
  obtain ⟨rc, wcn, wcq⟩ := hc
  obtain ⟨rd, wdn, wdq⟩ := hd
  obtain ⟨re, wen, weq⟩ := he
  obtain ⟨x, hx⟩ : ∃ x, x = an * bq * cq * dq * eq := ⟨_, rfl⟩
  obtain ⟨y, hy⟩ : ∃ y, y = bn * aq * dq * eq := ⟨_, rfl⟩
  obtain ⟨r, hr⟩ : ∃ r, r = cn * cq := ⟨_, rfl⟩
  obtain ⟨z, hz⟩ : ∃ z, z = dn * aq * bq * cq := ⟨_, rfl⟩
  obtain ⟨t, ht⟩ : ∃ t, t = en * eq := ⟨_, rfl⟩
  have P1 : Hid (([an, bq, cq, dq, eq] : List Int).foldl (fun a b => a * b) 1 = x) := by show _ = _; rw [hx]; simp
  have P2 : Hid (([bn, aq, dq, eq] : List Int).foldl (fun a b => a * b) 1 = y) := by show _ = _; rw [hy]; simp
  have P3 : Hid (([cn, cq] : List Int).foldl (fun a b => a * b) 1 = r) := by show _ = _; rw [hr]; simp
  have P4 : Hid (([dn, aq, bq, cq] : List Int).foldl (fun a b => a * b) 1 = z) := by show _ = _; rw [hz]; simp
  have P5 : Hid (([en, eq] : List Int).foldl (fun a b => a * b) 1 = t) := by show _ = _; rw [ht]; simp
  have Q1 : Hid (([x, x] : List Int).foldl (fun a b => a * b) 1 = x * x) := by show _ = _; simp
  have Q2 : Hid (([y, y, r] : List Int).foldl (fun a b => a * b) 1 = y * y * r) := by show _ = _; simp
  have Q3 : Hid (([z, z, t] : List Int).foldl (fun a b => a * b) 1 = z * z * t) := by show _ = _; simp
  have Q4 : Hid (([2, x, y] : List Int).foldl (fun a b => a * b) 1 = 2 * x * y) := by show _ = _; simp
  have M1 : Hid (1 + (([an, bq, cq, dq, eq] : List Int).map wid).sum ≤ 1024) := by show _ ≤ _; simp; omega
  have M2 : Hid (1 + (([bn, aq, dq, eq] : List Int).map wid).sum ≤ 1024) := by show _ ≤ _; simp; omega
  have M3 : Hid (1 + (([cn, cq] : List Int).map wid).sum ≤ 1024) := by show _ ≤ _; simp; omega
  have M4 : Hid (1 + (([dn, aq, bq, cq] : List Int).map wid).sum ≤ 1024) := by show _ ≤ _; simp; omega
  have M5 : Hid (1 + (([en, eq] : List Int).map wid).sum ≤ 1024) := by show _ ≤ _; simp; omega
  have wx : wid x ≤ 150 := by
    rw [hx]
    have := wid_mul an bq; have := wid_mul (an * bq) cq; have := wid_mul (an * bq * cq) dq; have := wid_mul (an * bq * cq * dq) eq
    omega
  have wy : wid y ≤ 120 := by
    rw [hy]
    have := wid_mul bn aq; have := wid_mul (bn * aq) dq; have := wid_mul (bn * aq * dq) eq
    omega
  have wr : wid r ≤ 60 := by
    rw [hr]
    have := wid_mul cn cq
    omega
  have wz : wid z ≤ 120 := by
    rw [hz]
    have := wid_mul dn aq; have := wid_mul (dn * aq) bq; have := wid_mul (dn * aq * bq) cq
    omega
  have wt : wid t ≤ 60 := by
    rw [ht]
    have := wid_mul en eq
    omega
  have w2 := wid_two
  have N1 : Hid (1 + (([x, x] : List Int).map wid).sum ≤ 1024) := by show _ ≤ _; simp; omega
  have N2 : Hid (1 + (([y, y, r] : List Int).map wid).sum ≤ 1024) := by show _ ≤ _; simp; omega
  have N3 : Hid (1 + (([z, z, t] : List Int).map wid).sum ≤ 1024) := by show _ ≤ _; simp; omega
  have N4 : Hid (1 + (([2, x, y] : List Int).map wid).sum ≤ 1024) := by show _ ≤ _; simp; omega
  have v1 : wid (x * x) ≤ 300 := by have := wid_mul x x; omega
  have v2 : wid (y * y * r) ≤ 300 := by have := wid_mul y y; have := wid_mul (y * y) r; omega
  have v3 : wid (z * z * t) ≤ 300 := by have := wid_mul z z; have := wid_mul (z * z) t; omega
  have v4 : wid (x * x + y * y * r) ≤ 301 := by have := wid_add (x * x) (y * y * r); omega
  have v5 : wid (x * x + y * y * r - z * z * t) ≤ 302 := by have := wid_sub (x * x + y * y * r) (z * z * t); omega
  have v6 : wid (2 * x * y) ≤ 300 := by have := wid_mul 2 x; have := wid_mul (2 * x) y; omega
  have V4 : Hid (wid (x * x + y * y * r) ≤ 1024) := show wid (x * x + y * y * r) ≤ 1024 by omega
  have V5 : Hid (wid (x * x + y * y * r - z * z * t) ≤ 1024) := show wid (x * x + y * y * r - z * z * t) ≤ 1024 by omega
  have R1 : Hid (wid x ≤ 400 ∧ wid y ≤ 400 ∧ wid r ≤ 100) := show wid x ≤ 400 ∧ wid y ≤ 400 ∧ wid r ≤ 100 by omega
  have R2 : Hid (wid (x * x + y * y * r - z * z * t) ≤ 400 ∧ wid (2 * x * y) ≤ 400 ∧ wid r ≤ 100) := show wid (x * x + y * y * r - z * z * t) ≤ 400 ∧ wid (2 * x * y) ≤ 400 ∧ wid r ≤ 100 by omega
  have HR : Hid (rootsOf an aq bn bq cn cq dn dq en eq = rootsZ x y r z t) := by show _ = _; unfold rootsOf; rw [hx, hy, hr, hz, ht]
  clear wan waq wbn wbq wcn wcq wdn wdq wen weq wx wy wr wz wt w2 v1 v2 v3 v4 v5 v6 hx hy hr hz ht
  obtain ⟨fi, hfi⟩ : ∃ fi, fi = rootZ x y r := ⟨_, rfl⟩
  obtain ⟨u, hu⟩ : ∃ u, u = sgn z := ⟨_, rfl⟩
  obtain ⟨v, hv⟩ : ∃ v, v = sgn t := ⟨_, rfl⟩
  obtain ⟨o, ho⟩ : ∃ o, o = rootZ (x * x + y * y * r - z * z * t) (2 * x * y) r := ⟨_, rfl⟩
  have rs : -1 ≤ fi ∧ fi ≤ 1 := by rw [hfi]; exact rootZ_range _ _ _
  have ru : -1 ≤ u ∧ u ≤ 1 := by rw [hu]; exact sgn_range _
  have rv : -1 ≤ v ∧ v ≤ 1 := by rw [hv]; exact sgn_range _
  have ro : -1 ≤ o ∧ o ≤ 1 := by rw [ho]; exact rootZ_range _ _ _
  have rt := mul_range ru rv
  have rst := mul_range rs rt
  have rso := mul_range rs ro
  have HG : Hid (rootsOf an aq bn bq cn cq dn dq en eq = rootV fi (u * v) o) := by show _ = _; rw [HR.out]; unfold rootsZ; rw [hfi, hu, hv, ho]
  have HFI := Lib.hid hfi; have HU := Lib.hid hu; have HV := Lib.hid hv; have HO := Lib.hid ho
  clear hfi hu hv ho HR
  obtain ⟨lu, hu1⟩ := rt
  obtain ⟨lst, hst1⟩ := rst
  obtain ⟨lso, hso1⟩ := rso
  obtain ⟨ls, hs1⟩ := rs
  clear ru rv ro
  generalize rootsOf an aq bn bq cn cq dn dq en eq = res at *
  by_cases h1 : 0 ≤ fi * (u * v)
  · have g1 : decide (0 ≤ fi * (u * v)) = true := decide_eq_true h1
    by_cases h2 : fi = 0
    · have HF : Hid (res = u * v) := by show _ = _; rw [HG.out]; unfold rootV; rw [if_pos h1, if_pos h2]
      have g2 : (fi == 0) = true := by rw [h2]; rfl
      clear h2
      go_enter Tryz.func16, Tryz.ntmps16
      go_wp2_with fail
      refine (checks_new [a, b, c, d, e] _ _ 5 rfl hE (by omega) hf).mono ?_
      rintro er w1 ⟨rfl, hb1⟩
      rw [HZ.out]
      have hE1 := hE.below hb1
      go_wp2_with fail
      refine (cut_right a an aq _ hE1 ra).mono ?_
      rintro er w' ⟨can, caq, han, haq, rfl, k0, rfl⟩
      have hC1 : Below w.heap.size w (w1.drewN k0) := below_drewN hb1 k0
      generalize w1.drewN k0 = u1 at *
      have hD1 := hE.below hC1
      go_wp2_with fail
      refine (cut_right b bn bq _ hD1 rb).mono ?_
      rintro er w' ⟨cbn, cbq, hbn, hbq, rfl, k1, rfl⟩
      have hC2 : Below w.heap.size w (u1.drewN k1) := below_drewN hC1 k1
      generalize u1.drewN k1 = u2 at *
      have hD2 := hE.below hC2
      go_wp2_with fail
      refine (cut_right c cn cq _ hD2 rc).mono ?_
      rintro er w' ⟨ccn, ccq, hcn, hcq, rfl, k2, rfl⟩
      have hC3 : Below w.heap.size w (u2.drewN k2) := below_drewN hC2 k2
      generalize u2.drewN k2 = u3 at *
      have hD3 := hE.below hC3
      go_wp2_with fail
      refine (cut_right d dn dq _ hD3 rd).mono ?_
      rintro er w' ⟨cdn, cdq, hdn, hdq, rfl, k3, rfl⟩
      have hC4 : Below w.heap.size w (u3.drewN k3) := below_drewN hC3 k3
      generalize u3.drewN k3 = u4 at *
      have hD4 := hE.below hC4
      go_wp2_with fail
      refine (cut_right e en eq _ hD4 re).mono ?_
      rintro er w' ⟨cen, ceq, hen, heq, rfl, k4, rfl⟩
      have hC5 : Below w.heap.size w (u4.drewN k4) := below_drewN hC4 k4
      generalize u4.drewN k4 = u5 at *
      have hD5 := hE.below hC5
      go_wp2_with fail
      have hB2 := hC5
      have hE2 := hD5
      have hS := St.new hE2
      have hB3 : Below w.heap.size w (u5.alloc (.cells #[.int .i64 0] 90)) := hB2.alloc hB2.size _
      have hE3 := hE.below hB3
      have hsz := hB2.size
      have key := fun T => mul_ok u5.heap.size [can, cbq, ccq, cdq, ceq] [an, bq, cq, dq, eq] 5 T _ hE3 hS ⟨han, hbq, hcq, hdq, heq, trivial⟩ rfl (by omega) _ P1.out M1.out
      simp only [World.size_alloc] at key
      refine (key _).mono ?_
      clear key
      rintro rr w4 ⟨tx, htx, rfl, hg4, hs4⟩
      have hB4 := only_new hB3 hg4 hB3.size hsz
      have hE4 := hE.below hB4
      generalize u5.heap.size = s at *
      go_wp2_with fail
      refine (mul_ok s [cbn, caq, cdq, ceq] [bn, aq, dq, eq] 4 _ _ hE4 hs4 ⟨hbn, haq, hdq, heq, trivial⟩ rfl (by omega) _ P2.out M2.out).mono ?_
      rintro rr w5 ⟨ty, hty, rfl, hg5, hs5⟩
      have hB5 := only_new hB4 hg5 hB4.size hsz
      have hE5 := hE.below hB5
      go_wp2_with fail
      refine (mul_ok s [ccn, ccq] [cn, cq] 2 _ _ hE5 hs5 ⟨hcn, hcq, trivial⟩ rfl (by omega) _ P3.out M3.out).mono ?_
      rintro rr w6 ⟨tr, htr, rfl, hg6, hs6⟩
      have hB6 := only_new hB5 hg6 hB5.size hsz
      have hE6 := hE.below hB6
      go_wp2_with fail
      refine (mul_ok s [cdn, caq, cbq, ccq] [dn, aq, bq, cq] 4 _ _ hE6 hs6 ⟨hdn, haq, hbq, hcq, trivial⟩ rfl (by omega) _ P4.out M4.out).mono ?_
      rintro rr w7 ⟨tz, htz, rfl, hg7, hs7⟩
      have hB7 := only_new hB6 hg7 hB6.size hsz
      have hE7 := hE.below hB7
      go_wp2_with fail
      refine (mul_ok s [cen, ceq] [en, eq] 2 _ _ hE7 hs7 ⟨hen, heq, trivial⟩ rfl (by omega) _ P5.out M5.out).mono ?_
      rintro rr w8 ⟨tt, htt, rfl, hg8, hs8⟩
      have hB8 := only_new hB7 hg8 hB7.size hsz
      have hE8 := hE.below hB8
      go_wp2_with fail
      refine (sums_root s x y r tx ty tr _ hE8 hs8 htx hty htr R1.out.1 R1.out.2.1 R1.out.2.2).mono ?_
      rintro rr w9 ⟨rfl, hg9, hs9⟩
      have hB9 := only_new hB8 hg9 hB8.size hsz
      have hE9 := hE.below hB9
      rw [← HFI.out]
      go_wp2_with fail
      refine (sign_ok s z tz _ hs9 htz).mono ?_
      rintro rr w10 ⟨rfl, hg10, hs10⟩
      have hB10 := only_new hB9 hg10 hB9.size hsz
      have hE10 := hE.below hB10
      rw [← HU.out]
      go_wp2_with fail
      refine (sign_ok s t tt _ hs10 htt).mono ?_
      rintro rr w11 ⟨rfl, hg11, hs11⟩
      have hB11 := only_new hB10 hg11 hB10.size hsz
      have hE11 := hE.below hB11
      rw [← HV.out]
      have c11 := hs11.cell
      go_wp2_with fail
      go_quiet (fail)
      go_wp2_with fail
      go_ret2
      rw [HF.out]
      exact ⟨rfl, below_drewN hB11 _⟩
    · have HF : Hid (res = fi) := by show _ = _; rw [HG.out]; unfold rootV; rw [if_pos h1, if_neg h2]
      have g2 : (fi == 0) = false := by simp [h2]
      clear h2
      go_enter Tryz.func16, Tryz.ntmps16
      go_wp2_with fail
      refine (checks_new [a, b, c, d, e] _ _ 5 rfl hE (by omega) hf).mono ?_
      rintro er w1 ⟨rfl, hb1⟩
      rw [HZ.out]
      have hE1 := hE.below hb1
      go_wp2_with fail
      refine (cut_right a an aq _ hE1 ra).mono ?_
      rintro er w' ⟨can, caq, han, haq, rfl, k0, rfl⟩
      have hC1 : Below w.heap.size w (w1.drewN k0) := below_drewN hb1 k0
      generalize w1.drewN k0 = u1 at *
      have hD1 := hE.below hC1
      go_wp2_with fail
      refine (cut_right b bn bq _ hD1 rb).mono ?_
      rintro er w' ⟨cbn, cbq, hbn, hbq, rfl, k1, rfl⟩
      have hC2 : Below w.heap.size w (u1.drewN k1) := below_drewN hC1 k1
      generalize u1.drewN k1 = u2 at *
      have hD2 := hE.below hC2
      go_wp2_with fail
      refine (cut_right c cn cq _ hD2 rc).mono ?_
      rintro er w' ⟨ccn, ccq, hcn, hcq, rfl, k2, rfl⟩
      have hC3 : Below w.heap.size w (u2.drewN k2) := below_drewN hC2 k2
      generalize u2.drewN k2 = u3 at *
      have hD3 := hE.below hC3
      go_wp2_with fail
      refine (cut_right d dn dq _ hD3 rd).mono ?_
      rintro er w' ⟨cdn, cdq, hdn, hdq, rfl, k3, rfl⟩
      have hC4 : Below w.heap.size w (u3.drewN k3) := below_drewN hC3 k3
      generalize u3.drewN k3 = u4 at *
      have hD4 := hE.below hC4
      go_wp2_with fail
      refine (cut_right e en eq _ hD4 re).mono ?_
      rintro er w' ⟨cen, ceq, hen, heq, rfl, k4, rfl⟩
      have hC5 : Below w.heap.size w (u4.drewN k4) := below_drewN hC4 k4
      generalize u4.drewN k4 = u5 at *
      have hD5 := hE.below hC5
      go_wp2_with fail
      have hB2 := hC5
      have hE2 := hD5
      have hS := St.new hE2
      have hB3 : Below w.heap.size w (u5.alloc (.cells #[.int .i64 0] 90)) := hB2.alloc hB2.size _
      have hE3 := hE.below hB3
      have hsz := hB2.size
      have key := fun T => mul_ok u5.heap.size [can, cbq, ccq, cdq, ceq] [an, bq, cq, dq, eq] 5 T _ hE3 hS ⟨han, hbq, hcq, hdq, heq, trivial⟩ rfl (by omega) _ P1.out M1.out
      simp only [World.size_alloc] at key
      refine (key _).mono ?_
      clear key
      rintro rr w4 ⟨tx, htx, rfl, hg4, hs4⟩
      have hB4 := only_new hB3 hg4 hB3.size hsz
      have hE4 := hE.below hB4
      generalize u5.heap.size = s at *
      go_wp2_with fail
      refine (mul_ok s [cbn, caq, cdq, ceq] [bn, aq, dq, eq] 4 _ _ hE4 hs4 ⟨hbn, haq, hdq, heq, trivial⟩ rfl (by omega) _ P2.out M2.out).mono ?_
      rintro rr w5 ⟨ty, hty, rfl, hg5, hs5⟩
      have hB5 := only_new hB4 hg5 hB4.size hsz
      have hE5 := hE.below hB5
      go_wp2_with fail
      refine (mul_ok s [ccn, ccq] [cn, cq] 2 _ _ hE5 hs5 ⟨hcn, hcq, trivial⟩ rfl (by omega) _ P3.out M3.out).mono ?_
      rintro rr w6 ⟨tr, htr, rfl, hg6, hs6⟩
      have hB6 := only_new hB5 hg6 hB5.size hsz
      have hE6 := hE.below hB6
      go_wp2_with fail
      refine (mul_ok s [cdn, caq, cbq, ccq] [dn, aq, bq, cq] 4 _ _ hE6 hs6 ⟨hdn, haq, hbq, hcq, trivial⟩ rfl (by omega) _ P4.out M4.out).mono ?_
      rintro rr w7 ⟨tz, htz, rfl, hg7, hs7⟩
      have hB7 := only_new hB6 hg7 hB6.size hsz
      have hE7 := hE.below hB7
      go_wp2_with fail
      refine (mul_ok s [cen, ceq] [en, eq] 2 _ _ hE7 hs7 ⟨hen, heq, trivial⟩ rfl (by omega) _ P5.out M5.out).mono ?_
      rintro rr w8 ⟨tt, htt, rfl, hg8, hs8⟩
      have hB8 := only_new hB7 hg8 hB7.size hsz
      have hE8 := hE.below hB8
      go_wp2_with fail
      refine (sums_root s x y r tx ty tr _ hE8 hs8 htx hty htr R1.out.1 R1.out.2.1 R1.out.2.2).mono ?_
      rintro rr w9 ⟨rfl, hg9, hs9⟩
      have hB9 := only_new hB8 hg9 hB8.size hsz
      have hE9 := hE.below hB9
      rw [← HFI.out]
      go_wp2_with fail
      refine (sign_ok s z tz _ hs9 htz).mono ?_
      rintro rr w10 ⟨rfl, hg10, hs10⟩
      have hB10 := only_new hB9 hg10 hB9.size hsz
      have hE10 := hE.below hB10
      rw [← HU.out]
      go_wp2_with fail
      refine (sign_ok s t tt _ hs10 htt).mono ?_
      rintro rr w11 ⟨rfl, hg11, hs11⟩
      have hB11 := only_new hB10 hg11 hB10.size hsz
      have hE11 := hE.below hB11
      rw [← HV.out]
      have c11 := hs11.cell
      go_wp2_with fail
      go_quiet (fail)
      go_wp2_with fail
      go_ret2
      rw [HF.out]
      exact ⟨rfl, below_drewN hB11 _⟩
  · have g1 : decide (0 ≤ fi * (u * v)) = false := decide_eq_false h1
    have HF : Hid (res = fi * o) := by show _ = _; rw [HG.out]; unfold rootV; rw [if_neg h1]
    go_enter Tryz.func16, Tryz.ntmps16
    go_wp2_with fail
    refine (checks_new [a, b, c, d, e] _ _ 5 rfl hE (by omega) hf).mono ?_
    rintro er w1 ⟨rfl, hb1⟩
    rw [HZ.out]
    have hE1 := hE.below hb1
    go_wp2_with fail
    refine (cut_right a an aq _ hE1 ra).mono ?_
    rintro er w' ⟨can, caq, han, haq, rfl, k0, rfl⟩
    have hC1 : Below w.heap.size w (w1.drewN k0) := below_drewN hb1 k0
    generalize w1.drewN k0 = u1 at *
    have hD1 := hE.below hC1
    go_wp2_with fail
    refine (cut_right b bn bq _ hD1 rb).mono ?_
    rintro er w' ⟨cbn, cbq, hbn, hbq, rfl, k1, rfl⟩
    have hC2 : Below w.heap.size w (u1.drewN k1) := below_drewN hC1 k1
    generalize u1.drewN k1 = u2 at *
    have hD2 := hE.below hC2
    go_wp2_with fail
    refine (cut_right c cn cq _ hD2 rc).mono ?_
    rintro er w' ⟨ccn, ccq, hcn, hcq, rfl, k2, rfl⟩
    have hC3 : Below w.heap.size w (u2.drewN k2) := below_drewN hC2 k2
    generalize u2.drewN k2 = u3 at *
    have hD3 := hE.below hC3
    go_wp2_with fail
    refine (cut_right d dn dq _ hD3 rd).mono ?_
    rintro er w' ⟨cdn, cdq, hdn, hdq, rfl, k3, rfl⟩
    have hC4 : Below w.heap.size w (u3.drewN k3) := below_drewN hC3 k3
    generalize u3.drewN k3 = u4 at *
    have hD4 := hE.below hC4
    go_wp2_with fail
    refine (cut_right e en eq _ hD4 re).mono ?_
    rintro er w' ⟨cen, ceq, hen, heq, rfl, k4, rfl⟩
    have hC5 : Below w.heap.size w (u4.drewN k4) := below_drewN hC4 k4
    generalize u4.drewN k4 = u5 at *
    have hD5 := hE.below hC5
    go_wp2_with fail
    have hB2 := hC5
    have hE2 := hD5
    have hS := St.new hE2
    have hB3 : Below w.heap.size w (u5.alloc (.cells #[.int .i64 0] 90)) := hB2.alloc hB2.size _
    have hE3 := hE.below hB3
    have hsz := hB2.size
    have key := fun T => mul_ok u5.heap.size [can, cbq, ccq, cdq, ceq] [an, bq, cq, dq, eq] 5 T _ hE3 hS ⟨han, hbq, hcq, hdq, heq, trivial⟩ rfl (by omega) _ P1.out M1.out
    simp only [World.size_alloc] at key
    refine (key _).mono ?_
    clear key
    rintro rr w4 ⟨tx, htx, rfl, hg4, hs4⟩
    have hB4 := only_new hB3 hg4 hB3.size hsz
    have hE4 := hE.below hB4
    generalize u5.heap.size = s at *
    go_wp2_with fail
    refine (mul_ok s [cbn, caq, cdq, ceq] [bn, aq, dq, eq] 4 _ _ hE4 hs4 ⟨hbn, haq, hdq, heq, trivial⟩ rfl (by omega) _ P2.out M2.out).mono ?_
    rintro rr w5 ⟨ty, hty, rfl, hg5, hs5⟩
    have hB5 := only_new hB4 hg5 hB4.size hsz
    have hE5 := hE.below hB5
    go_wp2_with fail
    refine (mul_ok s [ccn, ccq] [cn, cq] 2 _ _ hE5 hs5 ⟨hcn, hcq, trivial⟩ rfl (by omega) _ P3.out M3.out).mono ?_
    rintro rr w6 ⟨tr, htr, rfl, hg6, hs6⟩
    have hB6 := only_new hB5 hg6 hB5.size hsz
    have hE6 := hE.below hB6
    go_wp2_with fail
    refine (mul_ok s [cdn, caq, cbq, ccq] [dn, aq, bq, cq] 4 _ _ hE6 hs6 ⟨hdn, haq, hbq, hcq, trivial⟩ rfl (by omega) _ P4.out M4.out).mono ?_
    rintro rr w7 ⟨tz, htz, rfl, hg7, hs7⟩
    have hB7 := only_new hB6 hg7 hB6.size hsz
    have hE7 := hE.below hB7
    go_wp2_with fail
    refine (mul_ok s [cen, ceq] [en, eq] 2 _ _ hE7 hs7 ⟨hen, heq, trivial⟩ rfl (by omega) _ P5.out M5.out).mono ?_
    rintro rr w8 ⟨tt, htt, rfl, hg8, hs8⟩
    have hB8 := only_new hB7 hg8 hB7.size hsz
    have hE8 := hE.below hB8
    go_wp2_with fail
    refine (sums_root s x y r tx ty tr _ hE8 hs8 htx hty htr R1.out.1 R1.out.2.1 R1.out.2.2).mono ?_
    rintro rr w9 ⟨rfl, hg9, hs9⟩
    have hB9 := only_new hB8 hg9 hB8.size hsz
    have hE9 := hE.below hB9
    rw [← HFI.out]
    go_wp2_with fail
    refine (sign_ok s z tz _ hs9 htz).mono ?_
    rintro rr w10 ⟨rfl, hg10, hs10⟩
    have hB10 := only_new hB9 hg10 hB9.size hsz
    have hE10 := hE.below hB10
    rw [← HU.out]
    go_wp2_with fail
    refine (sign_ok s t tt _ hs10 htt).mono ?_
    rintro rr w11 ⟨rfl, hg11, hs11⟩
    have hB11 := only_new hB10 hg11 hB10.size hsz
    have hE11 := hE.below hB11
    rw [← HV.out]
    have c11 := hs11.cell
    go_wp2_with fail
    refine (mul_ok s [tx, tx] [x, x] 2 _ _ hE11 hs11 ⟨htx, htx, trivial⟩ rfl (by omega) _ Q1.out N1.out).mono ?_
    rintro rr w12 ⟨q1, hq1, rfl, hg12, hs12⟩
    have hB12 := only_new hB11 hg12 hB11.size hsz
    have hE12 := hE.below hB12
    go_wp2_with fail
    refine (mul_ok s [ty, ty, tr] [y, y, r] 3 _ _ hE12 hs12 ⟨hty, hty, htr, trivial⟩ rfl (by omega) _ Q2.out N2.out).mono ?_
    rintro rr w13 ⟨q2, hq2, rfl, hg13, hs13⟩
    have hB13 := only_new hB12 hg13 hB12.size hsz
    have hE13 := hE.below hB13
    go_wp2_with fail
    refine (add_ok s _ _ q1 q2 _ hE13 hs13 hq1 hq2 V4.out).mono ?_
    rintro rr w14 ⟨q3, hq3, rfl, hg14, hs14⟩
    have hB14 := only_new hB13 hg14 hB13.size hsz
    have hE14 := hE.below hB14
    go_wp2_with fail
    refine (mul_ok s [tz, tz, tt] [z, z, t] 3 _ _ hE14 hs14 ⟨htz, htz, htt, trivial⟩ rfl (by omega) _ Q3.out N3.out).mono ?_
    rintro rr w15 ⟨q4, hq4, rfl, hg15, hs15⟩
    have hB15 := only_new hB14 hg15 hB14.size hsz
    have hE15 := hE.below hB15
    go_wp2_with fail
    refine (sub_ok s _ _ q3 q4 _ hE15 hs15 hq3 hq4 V5.out).mono ?_
    rintro rr w16 ⟨q5, hq5, rfl, hg16, hs16⟩
    have hB16 := only_new hB15 hg16 hB15.size hsz
    have hE16 := hE.below hB16
    go_wp2_with fail
    refine (mul_ok s [⟨#[50]⟩, tx, ty] [2, x, y] 3 _ _ hE16 hs16 ⟨two_ri, htx, hty, trivial⟩ rfl (by omega) _ Q4.out N4.out).mono ?_
    rintro rr w17 ⟨q6, hq6, rfl, hg17, hs17⟩
    have hB17 := only_new hB16 hg17 hB16.size hsz
    have hE17 := hE.below hB17
    go_wp2_with fail
    refine (sums_root s _ _ r q5 q6 tr _ hE17 hs17 hq5 hq6 htr R2.out.1 R2.out.2.1 R2.out.2.2).mono ?_
    rintro rr w18 ⟨rfl, hg18, hs18⟩
    have hB18 := only_new hB17 hg18 hB17.size hsz
    have hE18 := hE.below hB18
    rw [← HO.out]
    have c18 := hs18.cell
    go_wp2_with fail
    go_ret2
    rw [HF.out]
    exact ⟨rfl, hB18⟩

theorem ratio_SignRoots (a b c d e : ByteArray) (w : World) (hE : Env w) (hS : ∀ s ∈ [a, b, c, d, e], shortB s.toList ∧ s.size ≤ 1000000) :
    Calls Tryz.prog 16 #[.string a, .string b, .string c, .string d, .string e] w (OpI (signRootsR a b c d e) w) := by
  by_cases hz : firstErr chkR [a, b, c, d, e] = 0
  · have hall := firstErr_all hz
    have ra := (hS a (by simp)).1.rs (hall a (by simp))
    have rb := (hS b (by simp)).1.rs (hall b (by simp))
    have rc := (hS c (by simp)).1.rs (hall c (by simp))
    have rd := (hS d (by simp)).1.rs (hall d (by simp))
    have re := (hS e (by simp)).1.rs (hall e (by simp))
    by_cases hn : numOf c.toList < 0 ∨ numOf e.toList < 0
    · have hgoal : signRootsR a b c d e = (0, 2) := by unfold signRootsR; rw [if_pos hz, if_pos hn]
      rw [hgoal]
      exact roots_neg a b c d e _ _ _ _ _ _ _ _ _ _ w hE ra rb rc rd re (fits_short hS) hz hn
    · have hgoal : signRootsR a b c d e = (rootsOf (numOf a.toList) (denOf a.toList) (numOf b.toList) (denOf b.toList) (numOf c.toList) (denOf c.toList) (numOf d.toList) (denOf d.toList) (numOf e.toList) (denOf e.toList), 0) := by unfold signRootsR; rw [if_pos hz, if_neg hn]
      rw [hgoal]
      exact roots_right a b c d e _ _ _ _ _ _ _ _ _ _ w hE ra rb rc rd re (fits_short hS) hz (fun h => hn (.inl h)) (fun h => hn (.inr h))
  · exact roots_err a b c d e w hE hS hz

theorem zero_chk : chkR (⟨#[48]⟩ : ByteArray).toList = 0 := zero_right.chk
theorem zero_short : shortB (⟨#[48]⟩ : ByteArray).toList := by
  rw [show (⟨#[48]⟩ : ByteArray).toList = [48] from toList_lit [48]]
  unfold shortB cutN cutD
  rw [slashI_none [48] (by decide)]
  decide
theorem firstErr_five {f : Bytes → Int} (a b c z : ByteArray) (hz : f z.toList = 0) : firstErr f [a, b, c, z, z] = firstErr f [a, b, c] := by
  unfold firstErr
  split
  · unfold firstErr
    split
    · unfold firstErr
      split
      · unfold firstErr; rw [if_pos hz]; unfold firstErr; rw [if_pos hz]; rfl
      · rfl
    · rfl
  · rfl
theorem root_flat (x y r : Int) : rootsZ x y r 0 0 = rootZ x y r := by
  unfold rootsZ
  rw [sgn_zero (z := 0) rfl]
  generalize rootZ x y r = s
  unfold rootV
  rw [if_pos (by omega)]
  split
  · omega
  · rfl
theorem signRoots_zero (a b c : ByteArray) : signRootsR a b c ⟨#[48]⟩ ⟨#[48]⟩ = signRootR a b c := by
  have e1 := zero_right.numOf
  have e2 := zero_right.denOf
  unfold signRootsR signRootR
  rw [firstErr_five a b c _ zero_chk, e1, e2]
  split
  · have e3 : (numOf c.toList < 0 ∨ (0 : Int) < 0) ↔ numOf c.toList < 0 := by omega
    simp only [e3]
    unfold rootsOf rootOf
    rw [Int.mul_one, Int.mul_one, Int.mul_one, Int.mul_one, Int.zero_mul, Int.zero_mul, Int.zero_mul, Int.zero_mul, root_flat]
  · rfl

theorem ratio_SignRoot (a b c : ByteArray) (w : World) (hE : Env w) (hS : ∀ s ∈ [a, b, c], shortB s.toList ∧ s.size ≤ 1000000) :
    Calls Tryz.prog 14 #[.string a, .string b, .string c] w (OpI (signRootR a b c) w) := by
  have hS5 : ∀ s ∈ [a, b, c, ⟨#[48]⟩, ⟨#[48]⟩], shortB s.toList ∧ s.size ≤ 1000000 := by
    intro s hs
    simp only [List.mem_cons, List.not_mem_nil, or_false] at hs
    rcases hs with rfl | rfl | rfl | rfl | rfl
    · exact hS _ (by simp)
    · exact hS _ (by simp)
    · exact hS _ (by simp)
    · exact ⟨zero_short, by decide⟩
    · exact ⟨zero_short, by decide⟩
  have key := ratio_SignRoots a b c ⟨#[48]⟩ ⟨#[48]⟩ w hE hS5
  rw [signRoots_zero] at key
  have KEY := Lib.hid key; clear key hS hS5
  go_enter Tryz.func14, Tryz.ntmps14
  go_wp2_with fail
  refine KEY.out.mono ?_
  rintro r w1 ⟨rfl, hb1⟩
  go_wp2_with fail
  go_ret2
  exact ⟨rfl, hb1⟩

end Go.Proofs.YtgkiaonakiflbaaGreatDoor

/- The contracts of metrolabref02's Short, FewInt, Few. -/
namespace Go.Proofs.YtgkiaonakiflbaaGreatDoor
open Go.RowKit

def shortb (s : Bytes) : Bool := decide ((cutN s).length ≤ 30) && decide ((cutD s).length ≤ 30)
theorem shortb_iff (s : Bytes) : shortb s = true ↔ shortB s := by unfold shortb shortB; simp
def fewb (s : Bytes) : Bool := (decide ((cutN s).length ≤ 120) && decide ((cutD s).length ≤ 120)) || (decide (s.length < 5000) && (decide (1025 < (cutN s).length) || decide (1025 < (cutD s).length)))

theorem shortB.size {a : ByteArray} (h : shortB a.toList) : a.size ≤ 1000000 := by
  obtain ⟨h1, h2⟩ := h
  rw [← toList_length]
  by_cases h0 : 0 ≤ slashI a.toList
  · have e := congrArg List.length (cut_join a.toList h0)
    rw [List.length_append, List.length_cons] at e
    omega
  · have e : cutN a.toList = a.toList := by unfold cutN; rw [if_neg h0]
    rw [e] at h1; omega
theorem fewb_size {a : ByteArray} (h : fewb a.toList = true) : a.size ≤ 1000000 := by
  have hr : a.toList.length = a.size := toList_length a
  unfold fewb at h
  by_cases h0 : 0 ≤ slashI a.toList
  · have e := congrArg List.length (cut_join a.toList h0)
    rw [List.length_append, List.length_cons] at e
    simp at h
    omega
  · have e : cutN a.toList = a.toList := by unfold cutN; rw [if_neg h0]
    rw [e] at h
    simp at h
    omega

theorem ref_Short (a : ByteArray) (w : World) (hs : a.size ≤ 140737488351232) :
    Calls Tryz.prog 12 #[.string a] w fun r w' => r = .returned (.bool (shortb a.toList)) ∧ Below w.heap.size w w' := by
  have ln := cutN_le a.toList
  have ld := cutD_le a.toList
  rw [toList_length] at ln ld
  by_cases h1 : (cutN a.toList).length ≤ 30
  · by_cases h2 : (cutD a.toList).length ≤ 30
    all_goals
      go_enter Tryz.func12, Tryz.ntmps12
      go_wp2_with fail
      refine (ref_Split a _ hs).mono ?_
      rintro r w' ⟨c, d, hc, hd, rfl, k, rfl⟩
      have sc := hc.size
      have sd := hd.size
      have g1 : decide ((c.size : Int) ≤ 30) = true := decide_eq_true (by omega)
      first
        | (have g2 : decide ((d.size : Int) ≤ 30) = true := decide_eq_true (by omega)
           have HF : Hid (shortb a.toList = true) := by show _ = _; unfold shortb; rw [decide_eq_true h1, decide_eq_true h2]; rfl
           have Hc := Lib.hid sc; have Hd := Lib.hid sd; clear sc sd h1 h2
           go_wp2_with fail
           go_ret
           exact ⟨ret_bool HF.out.symm, below_drewN (Below.refl _ _) _⟩)
        | (have g2 : decide ((d.size : Int) ≤ 30) = false := decide_eq_false (by omega)
           have HF : Hid (shortb a.toList = false) := by show _ = _; unfold shortb; rw [decide_eq_true h1, decide_eq_false h2]; rfl
           have Hc := Lib.hid sc; have Hd := Lib.hid sd; clear sc sd h1 h2
           go_wp2_with fail
           go_ret
           exact ⟨ret_bool HF.out.symm, below_drewN (Below.refl _ _) _⟩)
  · go_enter Tryz.func12, Tryz.ntmps12
    go_wp2_with fail
    refine (ref_Split a _ hs).mono ?_
    rintro r w' ⟨c, d, hc, hd, rfl, k, rfl⟩
    have sc := hc.size
    have sd := hd.size
    have g1 : decide ((c.size : Int) ≤ 30) = false := decide_eq_false (by omega)
    have HF : Hid (shortb a.toList = false) := by show _ = _; unfold shortb; rw [decide_eq_false h1]; rfl
    have Hc := Lib.hid sc; have Hd := Lib.hid sd; clear sc sd h1
    go_wp2_with fail
    go_ret
    exact ⟨ret_bool HF.out.symm, below_drewN (Below.refl _ _) _⟩

theorem ref_FewInt (a : ByteArray) (w : World) (hs : a.size ≤ 140737488351232) :
    Calls Tryz.prog 29 #[.string a] w fun r w' => r = .returned (.bool (decide (a.size ≤ 120))) ∧ w = w' := by
  by_cases h1 : a.size ≤ 120
  · have g1 : decide ((a.size : Int) ≤ 120) = true := decide_eq_true (by omega)
    have HF : Hid (decide (a.size ≤ 120) = true) := decide_eq_true h1
    clear h1
    go_enter Tryz.func29, Tryz.ntmps29
    go_wp2_with fail
    go_ret
    exact ⟨ret_bool HF.out.symm, rfl⟩
  · have g1 : decide ((a.size : Int) ≤ 120) = false := decide_eq_false (by omega)
    have HF : Hid (decide (a.size ≤ 120) = false) := decide_eq_false h1
    clear h1
    go_enter Tryz.func29, Tryz.ntmps29
    go_wp2_with fail
    go_ret
    exact ⟨ret_bool HF.out.symm, rfl⟩

end Go.Proofs.YtgkiaonakiflbaaGreatDoor
