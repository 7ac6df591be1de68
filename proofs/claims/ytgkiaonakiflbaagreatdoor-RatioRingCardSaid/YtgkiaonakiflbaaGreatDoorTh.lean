/- Results up to common factors: canonical texts are equal when their quotients are; Add, Sub, Mul, Div, Neg, Compare, Sign on them. -/
import Derived.Test.YtgkiaonakiflbaaGreatDoorLe
namespace Go.Proofs.YtgkiaonakiflbaaGreatDoor
open Go.RowKit

theorem canon_unique {n p m q : Int} (hp : 0 < p) (hq : 0 < q) (h1 : Int.gcd n p = 1) (h2 : Int.gcd m q = 1) (h : n * q = m * p) : n = m ∧ p = q := by
  have hn : n.natAbs * q.natAbs = m.natAbs * p.natAbs := by rw [← Int.natAbs_mul, ← Int.natAbs_mul, h]
  have c1 : Nat.Coprime p.natAbs n.natAbs := by rw [Nat.coprime_iff_gcd_eq_one, Nat.gcd_comm]; exact h1
  have c2 : Nat.Coprime q.natAbs m.natAbs := by rw [Nat.coprime_iff_gcd_eq_one, Nat.gcd_comm]; exact h2
  have d1 : p.natAbs ∣ q.natAbs := c1.dvd_of_dvd_mul_left ⟨m.natAbs, by rw [hn, Nat.mul_comm]⟩
  have d2 : q.natAbs ∣ p.natAbs := c2.dvd_of_dvd_mul_left ⟨n.natAbs, by rw [← hn, Nat.mul_comm]⟩
  have e0 : p.natAbs = q.natAbs := Nat.dvd_antisymm d1 d2
  have e : p = q := by omega
  subst e
  exact ⟨Int.eq_of_mul_eq_mul_right (by omega) h, rfl⟩
theorem Rep.eq {K K' : Nat} {c c' : ByteArray} {N D N' D' : Int} (h : Rep K c N D) (h' : Rep K' c' N' D') (e : N * D' = N' * D) : c = c' := by
  obtain ⟨n, d, r, hD, h1⟩ := h
  obtain ⟨n', d', r', hD', h1'⟩ := h'
  have hx : n * d' = n' * d := by
    apply Int.eq_of_mul_eq_mul_right (a := D * D')
    · have := Int.mul_pos hD hD'; omega
    · grind
  obtain ⟨rfl, rfl⟩ := canon_unique r.pos r'.pos r.cop r'.cop hx
  exact Is.eq (l := rtext n d) r.text r'.text
theorem Rep.rr {K : Nat} {c : ByteArray} {N D : Int} (h : Rep K c N D) (hK : K ≤ 1024) : ∃ n d, RR c n d ∧ 0 < D ∧ n * D = N * d ∧ wid n ≤ K ∧ wid d ≤ K := by
  obtain ⟨n, d, r, hD, h1⟩ := h
  exact ⟨n, d, ⟨r.text, r.pos, r.cop, by have := r.wn; omega, by have := r.wd; omega⟩, hD, h1, r.wn, r.wd⟩
theorem Rep.size {K : Nat} {c : ByteArray} {N D : Int} (h : Rep K c N D) (hK : K ≤ 1024) : c.size ≤ 2060 := by
  obtain ⟨n, d, r, _⟩ := h.rr hK
  exact r.size
theorem Rep.pos {K : Nat} {c : ByteArray} {N D : Int} (h : Rep K c N D) : 0 < D := by
  obtain ⟨n, d, r, hD, _⟩ := h
  exact hD

theorem arith_ok {l : Int → Int → Int → Int → List Int} {N D : Int → Int → Int → Int → Int} {a b : ByteArray} {n p m q : Int} (ha : RR a n p) (hb : RR b m q) (hl : ∀ z ∈ l n p m q, wid z ≤ 1024) (hD : D n p m q ≠ 0) :
    arith l N D a.toList b.toList = (rtext (lowN (N n p m q) (D n p m q)) (lowD (N n p m q) (D n p m q)), 0) := by
  unfold arith opRes
  rw [if_pos (chkR2_zero ha hb), ha.numOf, ha.denOf, hb.numOf, hb.denOf, if_pos (by rw [List.all_eq_true]; intro z hz; exact decide_eq_true (hl z hz)), if_neg hD]

/-- A right result that is T / U. -/
def Gives (F : Bytes × Int) (K : Nat) (T U : Int) : Prop := F.2 = 0 ∧ ∀ c, Is c F.1 → Rep K c T U

theorem add_rep {K : Nat} {a b : ByteArray} {A P B Q : Int} (ha : Rep K a A P) (hb : Rep K b B Q) (hK : 2 * K + 1 ≤ 1024) : Gives (addR a.toList b.toList) (2 * K + 1) (A * Q + B * P) (P * Q) := by
  obtain ⟨n, p, ra, hP, h1, wn, wp⟩ := ha.rr (by omega)
  obtain ⟨m, q, rb, hQ, h2, wm, wq⟩ := hb.rr (by omega)
  have u1 := wid_mul n q
  have u2 := wid_mul m p
  have u3 := wid_mul p q
  have u4 := wid_add (n * q) (m * p)
  have hD : p * q ≠ 0 := by have := Int.mul_pos ra.pos rb.pos; omega
  have e : addR a.toList b.toList = (rtext (lowN (n * q + m * p) (p * q)) (lowD (n * q + m * p) (p * q)), 0) := arith_ok ra rb (by
    intro z hz
    simp only [List.mem_cons, List.not_mem_nil, or_false] at hz
    rcases hz with rfl | rfl | rfl | rfl <;> omega) hD
  rw [e]
  exact ⟨rfl, fun c hc => low_rep hc hD (Int.mul_pos hP hQ) (by omega) (by omega) (by grind)⟩
theorem sub_rep {K : Nat} {a b : ByteArray} {A P B Q : Int} (ha : Rep K a A P) (hb : Rep K b B Q) (hK : 2 * K + 1 ≤ 1024) : Gives (subR a.toList b.toList) (2 * K + 1) (A * Q - B * P) (P * Q) := by
  obtain ⟨n, p, ra, hP, h1, wn, wp⟩ := ha.rr (by omega)
  obtain ⟨m, q, rb, hQ, h2, wm, wq⟩ := hb.rr (by omega)
  have u1 := wid_mul n q
  have u2 := wid_mul m p
  have u3 := wid_mul p q
  have u4 := wid_sub (n * q) (m * p)
  have hD : p * q ≠ 0 := by have := Int.mul_pos ra.pos rb.pos; omega
  have e : subR a.toList b.toList = (rtext (lowN (n * q - m * p) (p * q)) (lowD (n * q - m * p) (p * q)), 0) := arith_ok ra rb (by
    intro z hz
    simp only [List.mem_cons, List.not_mem_nil, or_false] at hz
    rcases hz with rfl | rfl | rfl | rfl <;> omega) hD
  rw [e]
  exact ⟨rfl, fun c hc => low_rep hc hD (Int.mul_pos hP hQ) (by omega) (by omega) (by grind)⟩
theorem mul_rep {K : Nat} {a b : ByteArray} {A P B Q : Int} (ha : Rep K a A P) (hb : Rep K b B Q) (hK : 2 * K + 1 ≤ 1024) : Gives (mulR a.toList b.toList) (2 * K + 1) (A * B) (P * Q) := by
  obtain ⟨n, p, ra, hP, h1, wn, wp⟩ := ha.rr (by omega)
  obtain ⟨m, q, rb, hQ, h2, wm, wq⟩ := hb.rr (by omega)
  have u1 := wid_mul n m
  have u3 := wid_mul p q
  have hD : p * q ≠ 0 := by have := Int.mul_pos ra.pos rb.pos; omega
  have e : mulR a.toList b.toList = (rtext (lowN (n * m) (p * q)) (lowD (n * m) (p * q)), 0) := arith_ok ra rb (by
    intro z hz
    simp only [List.mem_cons, List.not_mem_nil, or_false] at hz
    rcases hz with rfl | rfl <;> omega) hD
  rw [e]
  exact ⟨rfl, fun c hc => low_rep hc hD (Int.mul_pos hP hQ) (by omega) (by omega) (by grind)⟩
theorem div_rep {K : Nat} {a b : ByteArray} {A P B Q T U : Int} (ha : Rep K a A P) (hb : Rep K b B Q) (hK : 2 * K + 1 ≤ 1024) (hB : B ≠ 0) (hU : 0 < U) (e : A * Q * U = T * (P * B)) : Gives (divR a.toList b.toList) (2 * K + 1) T U := by
  obtain ⟨n, p, ra, hP, h1, wn, wp⟩ := ha.rr (by omega)
  obtain ⟨m, q, rb, hQ, h2, wm, wq⟩ := hb.rr (by omega)
  have u1 := wid_mul n q
  have u3 := wid_mul p m
  have hm : m ≠ 0 := by
    intro h0
    rw [h0, Int.zero_mul] at h2
    have h3 : B * q ≠ 0 := Int.mul_ne_zero hB (by have := rb.pos; omega)
    exact h3 h2.symm
  have hD : p * m ≠ 0 := Int.mul_ne_zero (by have := ra.pos; omega) hm
  have e2 : divR a.toList b.toList = (rtext (lowN (n * q) (p * m)) (lowD (n * q) (p * m)), 0) := by
    unfold divR opRes
    rw [if_pos (chkR2_zero ra rb), ra.numOf, ra.denOf, rb.numOf, rb.denOf, if_neg hm, if_pos (by
      rw [List.all_eq_true]; intro z hz
      simp only [List.mem_cons, List.not_mem_nil, or_false] at hz
      refine decide_eq_true ?_
      rcases hz with rfl | rfl <;> omega), if_neg hD]
  rw [e2]
  refine ⟨rfl, fun c hc => low_rep hc hD hU (by omega) (by omega) ?_⟩
  apply Int.eq_of_mul_eq_mul_right (a := P * Q)
  · have := Int.mul_pos hP hQ; omega
  · grind
theorem neg_rep {K : Nat} {a : ByteArray} {A P : Int} (ha : Rep K a A P) (hK : K ≤ 1024) : Gives (negR a.toList) K (-A) P := by
  obtain ⟨n, p, ra, hP, h1, wn, wp⟩ := ha.rr hK
  have e : negR a.toList = (rtext (-n) p, 0) := by unfold negR; rw [if_pos ra.chk, ra.numOf, ra.denOf]
  rw [e]
  refine ⟨rfl, fun c hc => ⟨-n, p, ⟨hc, ra.pos, by unfold Int.gcd; rw [Int.natAbs_neg]; exact ra.cop, by rw [wid_neg]; exact wn, wp⟩, hP, by grind⟩⟩
theorem cmp_rep {K : Nat} {a b : ByteArray} {A P B Q : Int} (ha : Rep K a A P) (hb : Rep K b B Q) (hK : 2 * K + 1 ≤ 1024) : cmpR a.toList b.toList = (cmpZ (A * Q) (B * P), 0) := by
  obtain ⟨n, p, ra, hP, h1, wn, wp⟩ := ha.rr (by omega)
  obtain ⟨m, q, rb, hQ, h2, wm, wq⟩ := hb.rr (by omega)
  have u1 := wid_mul n q
  have u2 := wid_mul m p
  unfold cmpR
  rw [if_pos (chkR2_zero ra rb), ra.numOf, ra.denOf, rb.numOf, rb.denOf, if_pos ⟨by omega, by omega⟩, cmp_cross ra.pos rb.pos hP hQ h1 h2]
theorem sign_rep {K : Nat} {a : ByteArray} {A P : Int} (ha : Rep K a A P) (hK : K ≤ 1024) : signR a.toList = (sgn A, 0) := by
  obtain ⟨n, p, ra, hP, h1, wn, wp⟩ := ha.rr hK
  unfold signR
  rw [if_pos ra.chk, ra.numOf, sgn_cross ra.pos hP h1]
theorem chk_rep {K : Nat} {a : ByteArray} {A P : Int} (ha : Rep K a A P) (hK : K ≤ 1024) : chkR a.toList = 0 := by
  obtain ⟨n, p, ra, _⟩ := ha.rr hK
  exact ra.chk
theorem make_rep {a b : ByteArray} {x y T U : Int} {K : Nat} (ha : IsI a x) (hb : IsI b y) (hy : y ≠ 0) (hx : wid x ≤ K) (hy2 : wid y ≤ K) (hK : K ≤ 1024) (hU : 0 < U) (e : x * U = T * y) : Gives (makeR a.toList b.toList) K T U := by
  have e2 : makeR a.toList b.toList = (rtext (lowN x y) (lowD x y), 0) := by
    unfold makeR
    have h2 : chk2 a.toList b.toList = 0 := by unfold chk2; rw [if_pos (ha.chk0 (by omega)), hb.chk0 (by omega)]
    rw [if_pos h2, ha.num_eq, hb.num_eq, if_neg hy]
  rw [e2]
  exact ⟨rfl, fun c hc => low_rep hc hy hU hx hy2 e⟩

/-! The calls. -/
def NewRes (K : Nat) (T U : Int) (w : World) (r : Ending) (w' : World) : Prop := ∃ c, Rep K c T U ∧ r = .returned (.tuple #[.string c, .int .i64 0]) ∧ Below w.heap.size w w'
theorem OpS.res {F : Bytes × Int} {K : Nat} {T U : Int} {w : World} {r : Ending} {w' : World} (h : OpS F w r w') (g : Gives F K T U) : NewRes K T U w r w' := by
  obtain ⟨c, hc, hr, hB⟩ := h
  exact ⟨c, g.2 c hc, by rw [hr, g.1], hB⟩
theorem call_Add (K : Nat) (a b : ByteArray) (A P B Q : Int) (w : World) (hE : Env w) (ha : Rep K a A P) (hb : Rep K b B Q) (hK : 2 * K + 1 ≤ 1024) :
    Calls Tryz.prog 19 #[.string a, .string b] w (NewRes (2 * K + 1) (A * Q + B * P) (P * Q) w) :=
  (ratio_Add a b w hE (by have := ha.size (by omega); omega) (by have := hb.size (by omega); omega)).mono fun _ _ h => OpS.res (F := addR a.toList b.toList) h.opS (add_rep ha hb hK)
theorem call_Sub (K : Nat) (a b : ByteArray) (A P B Q : Int) (w : World) (hE : Env w) (ha : Rep K a A P) (hb : Rep K b B Q) (hK : 2 * K + 1 ≤ 1024) :
    Calls Tryz.prog 21 #[.string a, .string b] w (NewRes (2 * K + 1) (A * Q - B * P) (P * Q) w) :=
  (ratio_Sub a b w hE (by have := ha.size (by omega); omega) (by have := hb.size (by omega); omega)).mono fun _ _ h => OpS.res (F := subR a.toList b.toList) h.opS (sub_rep ha hb hK)
theorem call_Mul (K : Nat) (a b : ByteArray) (A P B Q : Int) (w : World) (hE : Env w) (ha : Rep K a A P) (hb : Rep K b B Q) (hK : 2 * K + 1 ≤ 1024) :
    Calls Tryz.prog 23 #[.string a, .string b] w (NewRes (2 * K + 1) (A * B) (P * Q) w) :=
  (ratio_Mul a b w hE (by have := ha.size (by omega); omega) (by have := hb.size (by omega); omega)).mono fun _ _ h => OpS.res (F := mulR a.toList b.toList) h.opS (mul_rep ha hb hK)
theorem call_Div (K : Nat) (a b : ByteArray) (A P B Q T U : Int) (w : World) (hE : Env w) (ha : Rep K a A P) (hb : Rep K b B Q) (hK : 2 * K + 1 ≤ 1024) (hB : B ≠ 0) (hU : 0 < U) (e : A * Q * U = T * (P * B)) :
    Calls Tryz.prog 25 #[.string a, .string b] w (NewRes (2 * K + 1) T U w) :=
  (ratio_Div a b w hE (by have := ha.size (by omega); omega) (by have := hb.size (by omega); omega)).mono fun _ _ h => OpS.res h (div_rep ha hb hK hB hU e)
theorem call_Neg (K : Nat) (a : ByteArray) (A P : Int) (w : World) (hE : Env w) (ha : Rep K a A P) (hK : K ≤ 1024) :
    Calls Tryz.prog 43 #[.string a] w (NewRes K (-A) P w) :=
  (ratio_Neg a w hE (by have := ha.size hK; omega)).mono fun _ _ h => OpS.res h (neg_rep ha hK)
theorem call_Make (K : Nat) (a b : ByteArray) (x y T U : Int) (w : World) (hE : Env w) (ha : IsI a x) (hb : IsI b y) (hy : y ≠ 0) (hx : wid x ≤ K) (hy2 : wid y ≤ K) (hK : K ≤ 1024) (hU : 0 < U) (e : x * U = T * y) :
    Calls Tryz.prog 30 #[.string a, .string b] w (NewRes K T U w) :=
  (ratio_Make a b w hE (by have := ha.size_le; omega) (by have := hb.size_le; omega)).mono fun _ _ h => OpS.res h (make_rep ha hb hy hx hy2 hK hU e)
/-- A number, and no error. -/
def NewInt (v : Int) (w : World) (r : Ending) (w' : World) : Prop := r = .returned (.tuple #[.int .i64 v, .int .i64 0]) ∧ Below w.heap.size w w'
theorem call_Compare (K : Nat) (a b : ByteArray) (A P B Q : Int) (w : World) (hE : Env w) (ha : Rep K a A P) (hb : Rep K b B Q) (hK : 2 * K + 1 ≤ 1024) :
    Calls Tryz.prog 27 #[.string a, .string b] w (NewInt (cmpZ (A * Q) (B * P)) w) :=
  (ratio_Compare a b w hE (by have := ha.size (by omega); omega) (by have := hb.size (by omega); omega)).mono fun _ _ h => by
    rw [cmp_rep ha hb hK] at h; exact h
theorem call_Sign (K : Nat) (a : ByteArray) (A P : Int) (w : World) (hE : Env w) (ha : Rep K a A P) (hK : K ≤ 1024) :
    Calls Tryz.prog 41 #[.string a] w (NewInt (sgn A) w) :=
  (ratio_Sign a w hE (by have := ha.size hK; omega)).mono fun _ _ h => by
    rw [sign_rep ha hK] at h; exact h

end Go.Proofs.YtgkiaonakiflbaaGreatDoor
