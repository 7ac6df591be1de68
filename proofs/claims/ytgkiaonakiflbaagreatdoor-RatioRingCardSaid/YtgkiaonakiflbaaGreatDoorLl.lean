/- The law RatioRing: the walk up to the comparisons. -/
import Derived.Test.YtgkiaonakiflbaaGreatDoorLk
import Derived.Deep.AppendLies
namespace Go.Proofs.YtgkiaonakiflbaaGreatDoor
open Go.RowKit

abbrev ringWorld (w : World) : World := (w.alloc (.cells #[.bool true] 71)).alloc (.cells #[.pointer (some ⟨w.heap.size, 0, none⟩)] 69)
theorem ring_below (w : World) : Below w.heap.size w (ringWorld w) :=
  ((Below.refl _ w).alloc (Nat.le_refl _) _).alloc (by simp) _
theorem ring_new {w : World} (hE : Env w) : Ring (ringWorld w) w.heap.size (w.heap.size + 1) := by
  have rA : (w.alloc (.cells #[.bool true] 71)).rowIs w.heap.size 71 1 (fun _ => .bool true) := ⟨_, heap_alloc_new w _, rfl, fun i hi => by
    obtain rfl : i = 0 := by omega
    rfl⟩
  have hsz : (w.alloc (.cells #[.bool true] 71)).heap.size = w.heap.size + 1 := World.size_alloc ..
  exact ⟨rA.alloc _, ⟨_, by rw [← hsz]; exact heap_alloc_new _ _, rfl, fun i hi => by
    obtain rfl : i = 0 := by omega
    rfl⟩, by omega, hE.far (Nat.le_refl _)⟩

theorem sum3_new (a b c : ByteArray) (n p m q u v : Int) (T : TypeId) (w : World) (hE : Env w) (ha : Rep 30 a n p) (hb : Rep 30 b m q) (hc : Rep 30 c u v) :
    Calls Tryz.prog 37 #[.slice (some ⟨w.heap.size, 0, none⟩) 3 3] (w.alloc (.cells (strs [a, b, c]).toArray T)) (NewRes 247 (n * (q * v) + (m * v + u * q) * p) (p * (q * v)) w) := by
  refine (call_Sum3 w.heap.size 3 a b c n p m q u v _ (hE.below ((Below.refl _ w).alloc (Nat.le_refl _) _)) ha hb hc (row_new w _ T)).mono ?_
  rintro e w' ⟨x, hx, rfl, h⟩
  exact ⟨x, hx, rfl, below_of_alloc (by rw [World.size_alloc] at h; exact h.mono (by omega))⟩

/-- A quotient by zero. -/
theorem div_zero3 (a b : ByteArray) (n p q : Int) {m : Int} (w : World) (hE : Env w) (ha : Rep 30 a n p) (hb : RS b m q) (hm : m = 0) :
    Calls Tryz.prog 25 #[.string a, .string b] w fun r w' => ∃ c, Is c [] ∧ r = .returned (.tuple #[.string c, .int .i64 10]) ∧ Below w.heap.size w w' := by
  obtain ⟨n', p', ra, _⟩ := ha.rr (by omega)
  have rb := hb.1
  refine (ratio_Div a b w hE (by have := ra.size; omega) (by have := rb.size; omega)).mono fun r w' h => ?_
  have e : divR a.toList b.toList = ([], 10) := by
    unfold divR
    rw [if_pos (chkR2_zero ra rb), ra.numOf, ra.denOf, rb.numOf, rb.denOf, if_pos hm]
  rw [e] at h
  exact h
theorem RX.grow {w0 : World} {A B : Nat} {w w' : World} (h : RX w0 A B w) (hb : Below w.heap.size w w') : RX w0 A B w' :=
  ⟨h.ring.below hb, h.below.trans (hb.mono h.below.size), h.hA⟩
theorem PairP.row {xs : List Value} {w0 : World} {A : Nat} {w : World} {g : Nat} (h : PairP xs w0 A w g) : Row w g 0 xs := by
  obtain ⟨h1, _, _⟩ := h
  have h2 : g < w.heap.size := (Array.getElem?_eq_some_iff.1 h1).1
  refine ⟨h2, fun i hi => ?_⟩
  unfold World.cell?
  rw [h1]
  simp [hi]

/-- Block G begins with n pairs of equal right numbers. -/
def Pairs (n : Nat) (w : World) (G : Nat) : Prop := G < w.heap.size ∧ ∀ k, k < n → ∃ y : ByteArray, chkR y.toList = 0 ∧ y.size < 4294967281 ∧ w.cell? ⟨G, k * 2, none⟩ = some (.string y) ∧ w.cell? ⟨G, k * 2 + 1, none⟩ = some (.string y)
theorem Pairs.below {n G : Nat} {w w' : World} (h : Pairs n w G) (hb : Below w.heap.size w w') : Pairs n w' G :=
  ⟨Nat.lt_of_lt_of_le h.1 hb.size, fun k hk => by
    obtain ⟨y, h1, h2, h3, h4⟩ := h.2 k hk
    exact ⟨y, h1, h2, (hb.cell (p := ⟨G, k * 2, none⟩) h.1).trans h3, (hb.cell (p := ⟨G, k * 2 + 1, none⟩) h.1).trans h4⟩⟩

/-- Each text twice. -/
def dbl : List ByteArray → List ByteArray
  | [] => []
  | y :: r => y :: y :: dbl r
theorem dbl_at : ∀ (ys : List ByteArray) (k : Nat) (y : ByteArray), ys[k]? = some y → (strs (dbl ys))[k * 2]? = some (.string y) ∧ (strs (dbl ys))[k * 2 + 1]? = some (.string y)
  | [], k, y, h => by simp at h
  | x :: r, 0, y, h => by
    obtain rfl : x = y := by simpa using h
    exact ⟨rfl, rfl⟩
  | x :: r, k + 1, y, h => by
    have ih := dbl_at r k y (by simpa using h)
    rw [show (k + 1) * 2 = k * 2 + 1 + 1 by omega]
    exact ih
theorem Pairs.of {w : World} {G : Nat} (ys : List ByteArray) (hl : G < w.heap.size) (hc : ∀ i v, (strs (dbl ys))[i]? = some v → w.cell? ⟨G, i, none⟩ = some v) (hy : ∀ y ∈ ys, chkR y.toList = 0 ∧ y.size < 4294967281) : Pairs ys.length w G :=
  ⟨hl, fun k hk => by
    obtain ⟨h1, h2⟩ := dbl_at ys k ys[k] (List.getElem?_eq_getElem hk)
    obtain ⟨h3, h4⟩ := hy ys[k] (List.getElem_mem hk)
    exact ⟨ys[k], h3, h4, hc _ _ h1, hc _ _ h2⟩⟩
theorem PairP.pairs {ys : List ByteArray} {w0 : World} {A : Nat} {w : World} {g : Nat} (h : PairP (strs (dbl ys)) w0 A w g) (hy : ∀ y ∈ ys, chkR y.toList = 0 ∧ y.size < 4294967281) : Pairs ys.length w g :=
  Pairs.of ys h.row.1 (fun i v hv => by
    obtain ⟨hi, rfl⟩ := List.getElem?_eq_some_iff.1 hv
    have := h.row.2 i hi
    rwa [Nat.zero_add] at this) hy
theorem Rep.good {K : Nat} {c : ByteArray} {N D : Int} (h : Rep K c N D) (hK : K ≤ 1024) : chkR c.toList = 0 ∧ c.size < 4294967281 := ⟨chk_rep h hK, by have := h.size hK; omega⟩
theorem pair_info : (Tryz.prog.info? 74).map (fun i => (i.zero, i.size, i.bytes)) = some (some (.agg #[.string ⟨#[]⟩, .string ⟨#[]⟩]), 2, 32) := by kernel_rfl
theorem PairP.owns {xs : List Value} {w0 : World} {A : Nat} {w : World} {g : Nat} (h : PairP xs w0 A w g) (hx : xs.length = 16) : w.ownsRow w0.heap.size 74 2 (.slice (some ⟨g, 0, none⟩) 8 8) 8 xs :=
  ⟨hx, .inr ⟨g, 8, xs.toArray, rfl, h.2.2, h.1, Nat.le_refl _, by decide, by simp [hx], by simp [← hx]⟩⟩

theorem RX.row {w0 : World} {A B g : Nat} {w w' : World} (h : RX w0 A B w) (hg : w.grownBy w' (some g)) (h1 : g ≠ A) (h2 : g ≠ B) (h3 : w0.heap.size ≤ g) : RX w0 A B w' :=
  ⟨⟨h.ring.rowA.of_block (hg.block A h.ring.rowA.lt (fun e => h1 (by injection e with e; exact e.symm))), h.ring.rowB.of_block (hg.block B h.ring.rowB.lt (fun e => h2 (by injection e with e; exact e.symm))), h.ring.ne, h.ring.farA⟩,
    only_new h.below hg h.below.size h3, h.hA⟩
theorem PairP.ne {y : ByteArray} {ys : List ByteArray} {w0 : World} {A B : Nat} {w : World} {g : Nat} (h : PairP (strs (dbl (y :: ys))) w0 A w g) (hR : Ring w A B) : g ≠ B := by
  rintro rfl
  have h1 := h.row.2 0 (Nat.zero_lt_succ _)
  rw [Nat.zero_add, hR.cellB] at h1
  cases h1
theorem add_zero_at (g j : Nat) : (⟨g, 0, none⟩ : Addr).add j = ⟨g, j, none⟩ := by unfold Addr.add; split <;> simp_all
theorem owns_pairs {ys : List ByteArray} {y : ByteArray} {w : World} {base g n cap : Nat} (h : w.ownsRow base 74 2 (.slice (some ⟨g, 0, none⟩) n cap) n (strs (dbl ys) ++ [.string y, .string y])) (hl : g < w.heap.size) (hy : ∀ x ∈ ys ++ [y], chkR x.toList = 0 ∧ x.size < 4294967281) : Pairs (ys ++ [y]).length w g :=
  Pairs.of (ys ++ [y]) hl (fun i v hv => by
    have h1 := h.cells (g := g) rfl i v (by
      rw [← hv]
      congr 1
      clear h hl hy hv
      induction ys with
      | nil => rfl
      | cons x r ih => exact congrArg (fun l => Value.string x :: Value.string x :: l) ih)
    rwa [add_zero_at] at h1) hy

set_option maxRecDepth 100000 in
set_option maxHeartbeats 8000000 in
theorem law_ring (a b c : ByteArray) (w : World) (hE : Env w) (ha : a.size ≤ 140737488351232) (hb : b.size ≤ 140737488351232) (hc : c.size ≤ 140737488351232) :
    Calls Tryz.prog 8 #[.string a, .string b, .string c] w fun r w' => r = .returned (.bool true) ∧ Below w.heap.size w w' := by
  have hss : ∀ s ∈ [a, b, c], s.size ≤ 140737488351232 := by
    intro s hs
    simp only [List.mem_cons, List.not_mem_nil, or_false] at hs
    rcases hs with rfl | rfl | rfl
    · exact ha
    · exact hb
    · exact hc
  rcases (show [a, b, c].any badR = true ∨ [a, b, c].any badR = false by cases [a, b, c].any badR <;> simp) with hf | hf
  · have HF := Lib.hid hf; clear hf
    go_enter Tryz.func8, Tryz.ntmps8
    go_wp2_with fail
    refine (right_new [a, b, c] 3 _ _ rfl (by omega) hss).mono ?_
    rintro r w0 ⟨rfl, hb0⟩
    rw [HF.out]
    have hE0 := hE.below hb0
    go_wp2_with fail
    refine (law_awake _ hE0).mono ?_
    rintro r w1 ⟨rfl, hb1⟩
    go_wp2_with fail
    go_ret
    exact ⟨rfl, hb0.trans (hb1.mono hb0.size)⟩
  · have hba : badR a = false ∧ badR b = false ∧ badR c = false := by simpa using hf
    have sa := good_rs hba.1
    have sb := good_rs hba.2.1
    have sc := good_rs hba.2.2
    have HF := Lib.hid hf; clear hf hba
    generalize num (cutN a.toList) = n at *
    generalize num (cutD a.toList) = p at *
    generalize num (cutN b.toList) = m at *
    generalize num (cutD b.toList) = q at *
    generalize num (cutN c.toList) = u at *
    generalize num (cutD c.toList) = v at *
    have qa := sa.rep
    have qb := sb.rep
    have qc := sc.rep
    have hz := div_zero_text sb.1
    have hpos : 0 < p ∧ 0 < q ∧ 0 < v := ⟨sa.1.pos, sb.1.pos, sc.1.pos⟩
    have HP := Lib.hid hpos
    have sb' := Lib.hid sb
    clear sa sb sc hpos
    go_enter Tryz.func8, Tryz.ntmps8
    go_wp2_with fail
    refine (right_new [a, b, c] 3 _ _ rfl (by omega) hss).mono ?_
    rintro r wr ⟨rfl, hBr⟩
    rw [HF.out]
    have hEr := hE.below hBr
    go_wp2_with fail
    have hR0 := ring_new hEr
    have hB0 : Below w.heap.size w (ringWorld wr) := hBr.trans ((ring_below wr).mono hBr.size)
    have hA : w.heap.size ≤ wr.heap.size := hBr.size
    have hE0 := hE.below hB0
    obtain ⟨A, eA⟩ : ∃ A, A = wr.heap.size := ⟨_, rfl⟩
    obtain ⟨B, eB⟩ : ∃ B, B = A + 1 := ⟨_, rfl⟩
    unfold ringWorld at hR0 hB0 hE0
    have hPos := HP.out
    have g1 := add_rep qa qb (by omega)
    obtain ⟨z1, hz1⟩ : ∃ z1, Rep 61 z1 (n * q + m * p) (p * q) := ⟨_, g1.2 _ (Is.of _)⟩
    have g2' := mul_rep qa qb (by omega)
    obtain ⟨z2, hz2⟩ : ∃ z2, Rep 61 z2 (n * m) (p * q) := ⟨_, g2'.2 _ (Is.of _)⟩
    have g3 := add_rep hz1 (qc.mono (by omega)) (by omega)
    obtain ⟨z3, hz3⟩ : ∃ z3, Rep 123 z3 ((n * q + m * p) * v + u * (p * q)) (p * q * v) := ⟨_, g3.2 _ (Is.of _)⟩
    have g4 := add_rep qb qc (by omega)
    obtain ⟨z4, hz4⟩ : ∃ z4, Rep 61 z4 (m * v + u * q) (q * v) := ⟨_, g4.2 _ (Is.of _)⟩
    have g6 := mul_rep hz2 (qc.mono (by omega)) (by omega)
    obtain ⟨z6, hz6⟩ : ∃ z6, Rep 123 z6 (n * m * u) (p * q * v) := ⟨_, g6.2 _ (Is.of _)⟩
    have g7 := mul_rep qb qc (by omega)
    obtain ⟨z7, hz7⟩ : ∃ z7, Rep 61 z7 (m * u) (q * v) := ⟨_, g7.2 _ (Is.of _)⟩
    have g9 := mul_rep (qa.mono (by omega)) hz4 (by omega)
    obtain ⟨z9, hz9⟩ : ∃ z9, Rep 123 z9 (n * (m * v + u * q)) (p * (q * v)) := ⟨_, g9.2 _ (Is.of _)⟩
    have g10 := mul_rep qa qc (by omega)
    obtain ⟨z10, hz10⟩ : ∃ z10, Rep 61 z10 (n * u) (p * v) := ⟨_, g10.2 _ (Is.of _)⟩
    have gn := neg_rep qa (by omega)
    obtain ⟨zn, hzn⟩ : ∃ zn, Rep 30 zn (-n) p := ⟨_, gn.2 _ (Is.of _)⟩
    have hz0 : Rep 30 ⟨#[48]⟩ 0 1 := (RB.rep ⟨zero_rb.text, zero_rb.pos, zero_rb.cop, by have := wid_zero; omega, by have := wid_one; omega⟩ : Rep 30 ⟨#[48]⟩ 0 1)
    clear g1 g2' g3 g4 g6 g7 g9 g10 gn
    rw [← eA] at hR0 hA hB0 hE0 ⊢
    rw [← eB] at hR0 ⊢
    generalize (wr.alloc (.cells #[.bool true] 71)).alloc (.cells #[.pointer (some ⟨A, 0, none⟩)] 69) = W0 at *
    have HA := Lib.hid eA; have HB := Lib.hid eB; clear eA eB
    have hX0 : RX w A B W0 := ⟨hR0, hB0, hA⟩
    refine ring_region (xs := strs (dbl [z1, z2, z3, z6, z9, a, ⟨#[48]⟩, z3])) (z1 := z1) (z2 := z2) (z3 := z3) (z4 := z4) (z6 := z6) (z7 := z7) (z9 := z9) (z10 := z10) (zn := zn) (a := a) (b := b) (c := c) ?hpre (by kernel_rfl) (by kernel_rfl) hX0 ?hstep (show 131 < 182 from by decide) (by kernel_rfl) ?hQ
    case hpre =>
      intro t ht
      simp only [List.mem_cons, List.not_mem_nil, or_false] at ht
      rcases ht with rfl | rfl | rfl | rfl | rfl | rfl <;> rfl
    case hQ =>
      intro f g2 w3 hX hPP
      rename_i k9
      refine k9 _ _ ?_
      clear k9
      simp only [mix, Nat.zero_add, Nat.reduceAdd, Nat.reduceBEq, Nat.reduceLeDiff, decide_true, decide_false, Bool.and_true, Bool.and_false, cond_true, cond_false]
      have hgood : ∀ y ∈ [z1, z2, z3, z6, z9, a, ⟨#[48]⟩, z3], chkR y.toList = 0 ∧ y.size < 4294967281 := by
        intro y hy
        simp only [List.mem_cons, List.not_mem_nil, or_false] at hy
        rcases hy with rfl | rfl | rfl | rfl | rfl | rfl | rfl | rfl
        · exact hz1.good (by omega)
        · exact hz2.good (by omega)
        · exact hz3.good (by omega)
        · exact hz6.good (by omega)
        · exact hz9.good (by omega)
        · exact qa.good (by omega)
        · exact hz0.good (by omega)
        · exact hz3.good (by omega)
      rcases (show (m = 0 ∧ (b.toList == [48]) = true) ∨ (m ≠ 0 ∧ (b.toList == [48]) = false) by
        by_cases h0 : m = 0
        · exact .inl ⟨h0, by rw [hz]; exact decide_eq_true h0⟩
        · exact .inr ⟨h0, by rw [hz]; exact decide_eq_false h0⟩) with ⟨hm, gm⟩ | ⟨hm, gm⟩
      · have HM := Lib.hid hm
        clear hm hz
        go_wp2_with fail
        refine (div_zero3 a b n p q _ (hE.below hX.below) qa sb'.out HM.out).mono ?_
        rintro r w4 ⟨x4, hx4, rfl, hb4⟩
        replace hX := hX.grow hb4
        replace hPP := hPP.mono (only_below (World.grownBy.refl _ (some A)) hb4)
        have hRow : Pairs 8 w4 g2 := hPP.pairs (ys := [z1, z2, z3, z6, z9, a, ⟨#[48]⟩, z3]) hgood
        clear hPP
        go_wp2_with fail
        go_loopw [159] (fun i wr => ∃ k : Nat, k ≤ 8 ∧ i = .int .i64 k ∧ RX w A B wr ∧ Pairs 8 wr g2) (fun i _ => 8 - (intOf i).toNat)
        case atStart => exact ⟨0, by omega, rfl, hX, hRow⟩
        case round =>
          obtain ⟨k, hk, rfl, hX1, hP1⟩ := hrel
          clear hX hRow
          by_cases hlt : k < 8
          · obtain ⟨y, hy, hys, c1, c2⟩ := hP1.2 k hlt
            have hE1 := hE.below hX1.below
            go_wp2_with fail
            refine (ratio_Check y _ (hE1.below ((Below.refl _ _).alloc (Nat.le_refl _) _)) hys).mono ?_
            rintro r w5 ⟨rfl, hb5⟩
            have hb6 := below_of_alloc (by rw [World.size_alloc] at hb5; exact hb5.mono (by omega))
            rw [hy]
            go_wp2_with fail
            go_roundw
            case rel => exact ⟨k + 1, by omega, by go_num, hX1.grow hb6, hP1.below hb6⟩
            case measure => simp [intOf]; omega
          · obtain rfl : k = 8 := by omega
            have hE1 := hE.below hX1.below
            have cA := hX1.ring.cellA
            have cB := hX1.ring.cellB
            go_wp2_with fail
            refine (law_awake _ hE1).mono ?_
            rintro r w7 ⟨rfl, hb7⟩
            go_wp2_with fail
            go_ret
            exact ⟨rfl, hX1.below.trans (hb7.mono hX1.below.size)⟩
      · have HM := Lib.hid hm
        clear hm hz
        go_wp2_with fail
        have cB3 := hX.ring.cellB
        have hown := hPP.owns rfl
        have hgA := hPP.2.1
        have hgw := hPP.2.2
        obtain ⟨i0, hi0, hi1, hi2, hi3⟩ := info_parts pair_info
        have hgB := hPP.ne hX.ring
        go_region_held3 (fun w' => w'.cell? ⟨B, 0, none⟩ = some (.pointer (some ⟨A, 0, none⟩))) (first | go_keep | (rw [hgrow9.cell_far _ (by simp; have := hX7.ring.rowB.lt; omega) (by intro e; injection e with e; exact hgB e.symm)]; assumption))
          (first
            | (go_at_call 52; refine (fix_mul (Rk := fun v _ => v = .string z2) hE (by exact ⟨⟨hX.ring.rowA, hX.ring.rowB, hX.ring.ne, hX.ring.farA⟩, ⟨hX.below.os, hX.below.tape, hX.below.output, hX.below.size, hX.below.block⟩, hX.hA⟩) qa qb (by omega) hz2 (by grind) (fun _ => rfl)).mono ?_; rintro r w5 ⟨v5, rfl, hX5, hm5, rfl⟩; have cB5 := hX5.ring.cellB; have hP5 : PairP (strs (dbl [z1, z2, z3, z6, z9, a, ⟨#[48]⟩, z3])) w A w5 g2 := PairP.mono (by exact hPP) hm5)
            | (go_at_call 25; refine (call_Div 61 z2 b _ _ m q n p _ (by exact ⟨(hE.below hX5.below).tab, (hE.below hX5.below).mx⟩) hz2 (qb.mono (by omega)) (by omega) HM.out HP.out.1 (by grind)).mono ?_; rintro r w6 ⟨c6, hc6, rfl, hb6⟩; have hb6' : Below w5.heap.size w5 w6 := ⟨hb6.os, hb6.tape, hb6.output, hb6.size, hb6.block⟩; have hP6 := hP5.mono (only_below (World.grownBy.refl _ (some A)) hb6'); obtain rfl : a = c6 := qa.eq hc6 rfl; have cB6 := (hb6.cell (p := ⟨B, 0, none⟩) hX5.ring.rowB.lt).trans cB5)
            | (go_at_call 51; refine (fix_of (Rk := fun v _ => v = .string a) (by have hX6 := RX.grow hX5 hb6'; exact ⟨⟨hX6.ring.rowA, hX6.ring.rowB, hX6.ring.ne, hX6.ring.farA⟩, ⟨hX6.below.os, hX6.below.tape, hX6.below.output, hX6.below.size, hX6.below.block⟩, hX6.hA⟩) (fun _ => rfl)).mono ?_; rintro r w7 ⟨v7, rfl, hX7, hm7, rfl⟩; have cB7 := hX7.ring.cellB; have hP7 : PairP (strs (dbl [z1, z2, z3, z6, z9, a, ⟨#[48]⟩, z3])) w A w7 g2 := PairP.mono (by exact hP6) hm7; have hown7 := hP7.owns rfl)
            | (refine step_append_lies _ (by rfl) _ _ _ (by rfl) w.heap.size 74 i0 _ 2 32 Tryz.underlying75 hi0 hi1 hi2 hi3 rfl (by omega) _ 8 _ (by rfl) (by exact hown7.alloc _) ⟨w7.heap.size, 0, none⟩ 1 1 [.string a, .string a] (by rfl) (by rfl) (World.news_of_block (cs := #[.string a, .string a]) (t := 74) (fr := (0, 0)) (by exact heap_alloc_new w7 _)) (by simp [Value.oneCell']) (by omega) (by unfold maxLen; omega) (by omega) (by simp; have := hX7.below.size; omega) _ rfl ?_; intro g9 cap9 w9 hown9 hgrow9 hat9 hlt9))
        have hX9 : RX w A B w9 := RX.row (w := w7.alloc (.cells #[.string a, .string a] 74)) (hX7.alloc _) ⟨hgrow9.os, hgrow9.tape, hgrow9.output, hgrow9.size, hgrow9.block⟩ hgA hgB hgw
        have hP9 : Pairs 9 w9 g9 := owns_pairs (ys := [z1, z2, z3, z6, z9, a, ⟨#[48]⟩, z3]) hown9 hlt9 (by
          intro x hx
          rcases List.mem_append.1 hx with h | h
          · exact hgood x h
          · rw [List.mem_singleton.1 h]; exact qa.good (by omega))
        clear hown9 hgrow9 hat9 hlt9 hX7 hm7 hP7 hown7 cB7 hP6 hb6 hb6' cB6 hP5 hm5 hX5 cB5 hown hPP hX cB3
        simp only [Nat.reduceAdd]
        go_wp2_with fail
        go_loopw [159] (fun i wr => ∃ k : Nat, k ≤ 9 ∧ i = .int .i64 k ∧ RX w A B wr ∧ Pairs 9 wr g9) (fun i _ => 9 - (intOf i).toNat)
        case atStart => exact ⟨0, by omega, rfl, hX9, hP9⟩
        case round =>
          obtain ⟨k, hk, rfl, hX1, hP1⟩ := hrel
          clear hX9 hP9
          by_cases hlt : k < 9
          · obtain ⟨y, hy, hys, c1, c2⟩ := hP1.2 k hlt
            have hE1 := hE.below hX1.below
            go_wp2_with fail
            refine (ratio_Check y _ (hE1.below ((Below.refl _ _).alloc (Nat.le_refl _) _)) hys).mono ?_
            rintro r w5 ⟨rfl, hb5⟩
            have hb6 := below_of_alloc (by rw [World.size_alloc] at hb5; exact hb5.mono (by omega))
            rw [hy]
            go_wp2_with fail
            go_roundw
            case rel => exact ⟨k + 1, by omega, by go_num, hX1.grow hb6, hP1.below hb6⟩
            case measure => simp [intOf]; omega
          · obtain rfl : k = 9 := by omega
            have hE1 := hE.below hX1.below
            have cA := hX1.ring.cellA
            have cB := hX1.ring.cellB
            go_wp2_with fail
            refine (law_awake _ hE1).mono ?_
            rintro r w7 ⟨rfl, hb7⟩
            go_wp2_with fail
            go_ret
            exact ⟨rfl, hX1.below.trans (hb7.mono hX1.below.size)⟩
    case hstep =>
      rename_i Q9 K9 k9
      clear k9 K9 Q9 HF hss ha hb hc sb' hz hBr hEr hX0 hR0 hE0 HA HB hA hB0 W0
      intro hP
      refine steps_all ?_
      refine Steps.cons ?_ ?_
      · intro a' w' hX hK
        rw [ring_agree2 0 0 _ hP rfl hK]
        exact (⟨hX, World.grownBy.refl _ _, 0, 0, rfl, fun h => absurd h (by decide), fun h => absurd h (by decide)⟩ : stepUpon Tryz.prog (RX w A B) (RM A) (RV w (strs [z1, z1, z2, z2, z3, z3, z6, z6, z9, z9, a, a, ⟨#[48]⟩, ⟨#[48]⟩, z3, z3]) a b c z1 z2 z3 z4 z6 z7 z9 z10 zn A B 0) w' (.ok (.value (.func (.func 50) #[] #[.pointer (some ⟨B, 0, none⟩)])) w'))
      refine Steps.cons ?_ ?_
      · intro a' w' hX hK
        rw [ring_agree2 0 0 _ hP rfl hK]
        exact (⟨hX, World.grownBy.refl _ _, 0, 0, rfl, fun h => absurd h (by decide), fun h => absurd h (by decide)⟩ : stepUpon Tryz.prog (RX w A B) (RM A) (RV w (strs [z1, z1, z2, z2, z3, z3, z6, z6, z9, z9, a, a, ⟨#[48]⟩, ⟨#[48]⟩, z3, z3]) a b c z1 z2 z3 z4 z6 z7 z9 z10 zn A B 1) w' (.ok (.value (.string a)) w'))
      refine Steps.cons ?_ ?_
      · intro a' w' hX hK
        rw [ring_agree2 0 0 _ hP rfl hK]
        exact (⟨hX, World.grownBy.refl _ _, 0, 0, rfl, fun h => absurd h (by decide), fun h => absurd h (by decide)⟩ : stepUpon Tryz.prog (RX w A B) (RM A) (RV w (strs [z1, z1, z2, z2, z3, z3, z6, z6, z9, z9, a, a, ⟨#[48]⟩, ⟨#[48]⟩, z3, z3]) a b c z1 z2 z3 z4 z6 z7 z9 z10 zn A B 2) w' (.ok (.value (.string b)) w'))
      refine Steps.cons ?_ ?_
      · intro a' w' hX hK
        rw [ring_agree2 0 0 _ hP rfl hK]
        rw [run_call_known (cap := #[.pointer (some ⟨B, 0, none⟩)]) (vs := #[.string a, .string b]) rfl rfl (by simp only [List.map_toArray, List.map_cons, List.map_nil]; rfl) Tryz.func50 rfl rfl]
        exact fix_add (Rk := (RV w (strs [z1, z1, z2, z2, z3, z3, z6, z6, z9, z9, a, a, ⟨#[48]⟩, ⟨#[48]⟩, z3, z3]) a b c z1 z2 z3 z4 z6 z7 z9 z10 zn A B 3)) hE hX qa qb (by omega) hz1 (by clear hK hP hX; grind) (fun w9 => ⟨0, 0, rfl, fun h => absurd h (by decide), fun h => absurd h (by decide)⟩)
      refine Steps.cons ?_ ?_
      · intro a' w' hX hK
        rw [ring_agree2 0 0 _ hP rfl hK]
        exact (⟨hX, World.grownBy.refl _ _, 0, 0, rfl, fun h => absurd h (by decide), fun h => absurd h (by decide)⟩ : stepUpon Tryz.prog (RX w A B) (RM A) (RV w (strs [z1, z1, z2, z2, z3, z3, z6, z6, z9, z9, a, a, ⟨#[48]⟩, ⟨#[48]⟩, z3, z3]) a b c z1 z2 z3 z4 z6 z7 z9 z10 zn A B 4) w' (.ok (.value (.func (.func 50) #[] #[.pointer (some ⟨B, 0, none⟩)])) w'))
      refine Steps.cons ?_ ?_
      · intro a' w' hX hK
        rw [ring_agree2 0 0 _ hP rfl hK]
        exact (⟨hX, World.grownBy.refl _ _, 0, 0, rfl, fun h => absurd h (by decide), fun h => absurd h (by decide)⟩ : stepUpon Tryz.prog (RX w A B) (RM A) (RV w (strs [z1, z1, z2, z2, z3, z3, z6, z6, z9, z9, a, a, ⟨#[48]⟩, ⟨#[48]⟩, z3, z3]) a b c z1 z2 z3 z4 z6 z7 z9 z10 zn A B 5) w' (.ok (.value (.string b)) w'))
      refine Steps.cons ?_ ?_
      · intro a' w' hX hK
        rw [ring_agree2 0 0 _ hP rfl hK]
        exact (⟨hX, World.grownBy.refl _ _, 0, 0, rfl, fun h => absurd h (by decide), fun h => absurd h (by decide)⟩ : stepUpon Tryz.prog (RX w A B) (RM A) (RV w (strs [z1, z1, z2, z2, z3, z3, z6, z6, z9, z9, a, a, ⟨#[48]⟩, ⟨#[48]⟩, z3, z3]) a b c z1 z2 z3 z4 z6 z7 z9 z10 zn A B 6) w' (.ok (.value (.string a)) w'))
      refine Steps.cons ?_ ?_
      · intro a' w' hX hK
        rw [ring_agree2 0 0 _ hP rfl hK]
        rw [run_call_known (cap := #[.pointer (some ⟨B, 0, none⟩)]) (vs := #[.string b, .string a]) rfl rfl (by simp only [List.map_toArray, List.map_cons, List.map_nil]; rfl) Tryz.func50 rfl rfl]
        exact fix_add (Rk := (RV w (strs [z1, z1, z2, z2, z3, z3, z6, z6, z9, z9, a, a, ⟨#[48]⟩, ⟨#[48]⟩, z3, z3]) a b c z1 z2 z3 z4 z6 z7 z9 z10 zn A B 7)) hE hX qb qa (by omega) hz1 (by clear hK hP hX; grind) (fun w9 => ⟨0, 0, rfl, fun h => absurd h (by decide), fun h => absurd h (by decide)⟩)
      refine Steps.cons ?_ ?_
      · intro a' w' hX hK
        rw [ring_agree2 0 0 _ hP rfl hK]
        rw [run_pair rfl rfl rfl]
        exact ⟨hX, World.grownBy.refl _ _, 0, 0, rfl, fun h => absurd h (by decide), fun h => absurd h (by decide)⟩
      refine Steps.cons ?_ ?_
      · intro a' w' hX hK
        rw [ring_agree2 0 0 _ hP rfl hK]
        exact (⟨hX, World.grownBy.refl _ _, 0, 0, rfl, fun h => absurd h (by decide), fun h => absurd h (by decide)⟩ : stepUpon Tryz.prog (RX w A B) (RM A) (RV w (strs [z1, z1, z2, z2, z3, z3, z6, z6, z9, z9, a, a, ⟨#[48]⟩, ⟨#[48]⟩, z3, z3]) a b c z1 z2 z3 z4 z6 z7 z9 z10 zn A B 9) w' (.ok (.value (.func (.func 52) #[] #[.pointer (some ⟨B, 0, none⟩)])) w'))
      refine Steps.cons ?_ ?_
      · intro a' w' hX hK
        rw [ring_agree2 0 0 _ hP rfl hK]
        exact (⟨hX, World.grownBy.refl _ _, 0, 0, rfl, fun h => absurd h (by decide), fun h => absurd h (by decide)⟩ : stepUpon Tryz.prog (RX w A B) (RM A) (RV w (strs [z1, z1, z2, z2, z3, z3, z6, z6, z9, z9, a, a, ⟨#[48]⟩, ⟨#[48]⟩, z3, z3]) a b c z1 z2 z3 z4 z6 z7 z9 z10 zn A B 10) w' (.ok (.value (.string a)) w'))
      refine Steps.cons ?_ ?_
      · intro a' w' hX hK
        rw [ring_agree2 0 0 _ hP rfl hK]
        exact (⟨hX, World.grownBy.refl _ _, 0, 0, rfl, fun h => absurd h (by decide), fun h => absurd h (by decide)⟩ : stepUpon Tryz.prog (RX w A B) (RM A) (RV w (strs [z1, z1, z2, z2, z3, z3, z6, z6, z9, z9, a, a, ⟨#[48]⟩, ⟨#[48]⟩, z3, z3]) a b c z1 z2 z3 z4 z6 z7 z9 z10 zn A B 11) w' (.ok (.value (.string b)) w'))
      refine Steps.cons ?_ ?_
      · intro a' w' hX hK
        rw [ring_agree2 0 0 _ hP rfl hK]
        rw [run_call_known (cap := #[.pointer (some ⟨B, 0, none⟩)]) (vs := #[.string a, .string b]) rfl rfl (by simp only [List.map_toArray, List.map_cons, List.map_nil]; rfl) Tryz.func52 rfl rfl]
        exact fix_mul (Rk := (RV w (strs [z1, z1, z2, z2, z3, z3, z6, z6, z9, z9, a, a, ⟨#[48]⟩, ⟨#[48]⟩, z3, z3]) a b c z1 z2 z3 z4 z6 z7 z9 z10 zn A B 12)) hE hX qa qb (by omega) hz2 (by clear hK hP hX; grind) (fun w9 => ⟨0, 0, rfl, fun h => absurd h (by decide), fun h => absurd h (by decide)⟩)
      refine Steps.cons ?_ ?_
      · intro a' w' hX hK
        rw [ring_agree2 0 0 _ hP rfl hK]
        exact (⟨hX, World.grownBy.refl _ _, 0, 0, rfl, fun h => absurd h (by decide), fun h => absurd h (by decide)⟩ : stepUpon Tryz.prog (RX w A B) (RM A) (RV w (strs [z1, z1, z2, z2, z3, z3, z6, z6, z9, z9, a, a, ⟨#[48]⟩, ⟨#[48]⟩, z3, z3]) a b c z1 z2 z3 z4 z6 z7 z9 z10 zn A B 13) w' (.ok (.value (.func (.func 52) #[] #[.pointer (some ⟨B, 0, none⟩)])) w'))
      refine Steps.cons ?_ ?_
      · intro a' w' hX hK
        rw [ring_agree2 0 0 _ hP rfl hK]
        exact (⟨hX, World.grownBy.refl _ _, 0, 0, rfl, fun h => absurd h (by decide), fun h => absurd h (by decide)⟩ : stepUpon Tryz.prog (RX w A B) (RM A) (RV w (strs [z1, z1, z2, z2, z3, z3, z6, z6, z9, z9, a, a, ⟨#[48]⟩, ⟨#[48]⟩, z3, z3]) a b c z1 z2 z3 z4 z6 z7 z9 z10 zn A B 14) w' (.ok (.value (.string b)) w'))
      refine Steps.cons ?_ ?_
      · intro a' w' hX hK
        rw [ring_agree2 0 0 _ hP rfl hK]
        exact (⟨hX, World.grownBy.refl _ _, 0, 0, rfl, fun h => absurd h (by decide), fun h => absurd h (by decide)⟩ : stepUpon Tryz.prog (RX w A B) (RM A) (RV w (strs [z1, z1, z2, z2, z3, z3, z6, z6, z9, z9, a, a, ⟨#[48]⟩, ⟨#[48]⟩, z3, z3]) a b c z1 z2 z3 z4 z6 z7 z9 z10 zn A B 15) w' (.ok (.value (.string a)) w'))
      refine Steps.cons ?_ ?_
      · intro a' w' hX hK
        rw [ring_agree2 0 0 _ hP rfl hK]
        rw [run_call_known (cap := #[.pointer (some ⟨B, 0, none⟩)]) (vs := #[.string b, .string a]) rfl rfl (by simp only [List.map_toArray, List.map_cons, List.map_nil]; rfl) Tryz.func52 rfl rfl]
        exact fix_mul (Rk := (RV w (strs [z1, z1, z2, z2, z3, z3, z6, z6, z9, z9, a, a, ⟨#[48]⟩, ⟨#[48]⟩, z3, z3]) a b c z1 z2 z3 z4 z6 z7 z9 z10 zn A B 16)) hE hX qb qa (by omega) hz2 (by clear hK hP hX; grind) (fun w9 => ⟨0, 0, rfl, fun h => absurd h (by decide), fun h => absurd h (by decide)⟩)
      refine Steps.cons ?_ ?_
      · intro a' w' hX hK
        rw [ring_agree2 0 0 _ hP rfl hK]
        rw [run_pair rfl rfl rfl]
        exact ⟨hX, World.grownBy.refl _ _, 0, 0, rfl, fun h => absurd h (by decide), fun h => absurd h (by decide)⟩
      refine Steps.cons ?_ ?_
      · intro a' w' hX hK
        rw [ring_agree2 0 0 _ hP rfl hK]
        exact (⟨hX, World.grownBy.refl _ _, 0, 0, rfl, fun h => absurd h (by decide), fun h => absurd h (by decide)⟩ : stepUpon Tryz.prog (RX w A B) (RM A) (RV w (strs [z1, z1, z2, z2, z3, z3, z6, z6, z9, z9, a, a, ⟨#[48]⟩, ⟨#[48]⟩, z3, z3]) a b c z1 z2 z3 z4 z6 z7 z9 z10 zn A B 18) w' (.ok (.value (.func (.func 50) #[] #[.pointer (some ⟨B, 0, none⟩)])) w'))
      refine Steps.cons ?_ ?_
      · intro a' w' hX hK
        rw [ring_agree2 0 0 _ hP rfl hK]
        exact (⟨hX, World.grownBy.refl _ _, 0, 0, rfl, fun h => absurd h (by decide), fun h => absurd h (by decide)⟩ : stepUpon Tryz.prog (RX w A B) (RM A) (RV w (strs [z1, z1, z2, z2, z3, z3, z6, z6, z9, z9, a, a, ⟨#[48]⟩, ⟨#[48]⟩, z3, z3]) a b c z1 z2 z3 z4 z6 z7 z9 z10 zn A B 19) w' (.ok (.value (.func (.func 50) #[] #[.pointer (some ⟨B, 0, none⟩)])) w'))
      refine Steps.cons ?_ ?_
      · intro a' w' hX hK
        rw [ring_agree2 0 0 _ hP rfl hK]
        exact (⟨hX, World.grownBy.refl _ _, 0, 0, rfl, fun h => absurd h (by decide), fun h => absurd h (by decide)⟩ : stepUpon Tryz.prog (RX w A B) (RM A) (RV w (strs [z1, z1, z2, z2, z3, z3, z6, z6, z9, z9, a, a, ⟨#[48]⟩, ⟨#[48]⟩, z3, z3]) a b c z1 z2 z3 z4 z6 z7 z9 z10 zn A B 20) w' (.ok (.value (.string a)) w'))
      refine Steps.cons ?_ ?_
      · intro a' w' hX hK
        rw [ring_agree2 0 0 _ hP rfl hK]
        exact (⟨hX, World.grownBy.refl _ _, 0, 0, rfl, fun h => absurd h (by decide), fun h => absurd h (by decide)⟩ : stepUpon Tryz.prog (RX w A B) (RM A) (RV w (strs [z1, z1, z2, z2, z3, z3, z6, z6, z9, z9, a, a, ⟨#[48]⟩, ⟨#[48]⟩, z3, z3]) a b c z1 z2 z3 z4 z6 z7 z9 z10 zn A B 21) w' (.ok (.value (.string b)) w'))
      refine Steps.cons ?_ ?_
      · intro a' w' hX hK
        rw [ring_agree2 0 0 _ hP rfl hK]
        rw [run_call_known (cap := #[.pointer (some ⟨B, 0, none⟩)]) (vs := #[.string a, .string b]) rfl rfl (by simp only [List.map_toArray, List.map_cons, List.map_nil]; rfl) Tryz.func50 rfl rfl]
        exact fix_add (Rk := (RV w (strs [z1, z1, z2, z2, z3, z3, z6, z6, z9, z9, a, a, ⟨#[48]⟩, ⟨#[48]⟩, z3, z3]) a b c z1 z2 z3 z4 z6 z7 z9 z10 zn A B 22)) hE hX qa qb (by omega) hz1 (by clear hK hP hX; grind) (fun w9 => ⟨0, 0, rfl, fun h => absurd h (by decide), fun h => absurd h (by decide)⟩)
      refine Steps.cons ?_ ?_
      · intro a' w' hX hK
        rw [ring_agree2 0 0 _ hP rfl hK]
        exact (⟨hX, World.grownBy.refl _ _, 0, 0, rfl, fun h => absurd h (by decide), fun h => absurd h (by decide)⟩ : stepUpon Tryz.prog (RX w A B) (RM A) (RV w (strs [z1, z1, z2, z2, z3, z3, z6, z6, z9, z9, a, a, ⟨#[48]⟩, ⟨#[48]⟩, z3, z3]) a b c z1 z2 z3 z4 z6 z7 z9 z10 zn A B 23) w' (.ok (.value (.string c)) w'))
      refine Steps.cons ?_ ?_
      · intro a' w' hX hK
        rw [ring_agree2 0 0 _ hP rfl hK]
        rw [run_call_known (cap := #[.pointer (some ⟨B, 0, none⟩)]) (vs := #[.string z1, .string c]) rfl rfl (by simp only [List.map_toArray, List.map_cons, List.map_nil]; rfl) Tryz.func50 rfl rfl]
        exact fix_add (Rk := (RV w (strs [z1, z1, z2, z2, z3, z3, z6, z6, z9, z9, a, a, ⟨#[48]⟩, ⟨#[48]⟩, z3, z3]) a b c z1 z2 z3 z4 z6 z7 z9 z10 zn A B 24)) hE hX hz1 (qc.mono (by omega)) (by omega) hz3 (by clear hK hP hX; grind) (fun w9 => ⟨0, 0, rfl, fun h => absurd h (by decide), fun h => absurd h (by decide)⟩)
      refine Steps.cons ?_ ?_
      · intro a' w' hX hK
        rw [ring_agree2 0 0 _ hP rfl hK]
        exact (⟨hX, World.grownBy.refl _ _, 0, 0, rfl, fun h => absurd h (by decide), fun h => absurd h (by decide)⟩ : stepUpon Tryz.prog (RX w A B) (RM A) (RV w (strs [z1, z1, z2, z2, z3, z3, z6, z6, z9, z9, a, a, ⟨#[48]⟩, ⟨#[48]⟩, z3, z3]) a b c z1 z2 z3 z4 z6 z7 z9 z10 zn A B 25) w' (.ok (.value (.func (.func 50) #[] #[.pointer (some ⟨B, 0, none⟩)])) w'))
      refine Steps.cons ?_ ?_
      · intro a' w' hX hK
        rw [ring_agree2 0 0 _ hP rfl hK]
        exact (⟨hX, World.grownBy.refl _ _, 0, 0, rfl, fun h => absurd h (by decide), fun h => absurd h (by decide)⟩ : stepUpon Tryz.prog (RX w A B) (RM A) (RV w (strs [z1, z1, z2, z2, z3, z3, z6, z6, z9, z9, a, a, ⟨#[48]⟩, ⟨#[48]⟩, z3, z3]) a b c z1 z2 z3 z4 z6 z7 z9 z10 zn A B 26) w' (.ok (.value (.string a)) w'))
      refine Steps.cons ?_ ?_
      · intro a' w' hX hK
        rw [ring_agree2 0 0 _ hP rfl hK]
        exact (⟨hX, World.grownBy.refl _ _, 0, 0, rfl, fun h => absurd h (by decide), fun h => absurd h (by decide)⟩ : stepUpon Tryz.prog (RX w A B) (RM A) (RV w (strs [z1, z1, z2, z2, z3, z3, z6, z6, z9, z9, a, a, ⟨#[48]⟩, ⟨#[48]⟩, z3, z3]) a b c z1 z2 z3 z4 z6 z7 z9 z10 zn A B 27) w' (.ok (.value (.func (.func 50) #[] #[.pointer (some ⟨B, 0, none⟩)])) w'))
      refine Steps.cons ?_ ?_
      · intro a' w' hX hK
        rw [ring_agree2 0 0 _ hP rfl hK]
        exact (⟨hX, World.grownBy.refl _ _, 0, 0, rfl, fun h => absurd h (by decide), fun h => absurd h (by decide)⟩ : stepUpon Tryz.prog (RX w A B) (RM A) (RV w (strs [z1, z1, z2, z2, z3, z3, z6, z6, z9, z9, a, a, ⟨#[48]⟩, ⟨#[48]⟩, z3, z3]) a b c z1 z2 z3 z4 z6 z7 z9 z10 zn A B 28) w' (.ok (.value (.string b)) w'))
      refine Steps.cons ?_ ?_
      · intro a' w' hX hK
        rw [ring_agree2 0 0 _ hP rfl hK]
        exact (⟨hX, World.grownBy.refl _ _, 0, 0, rfl, fun h => absurd h (by decide), fun h => absurd h (by decide)⟩ : stepUpon Tryz.prog (RX w A B) (RM A) (RV w (strs [z1, z1, z2, z2, z3, z3, z6, z6, z9, z9, a, a, ⟨#[48]⟩, ⟨#[48]⟩, z3, z3]) a b c z1 z2 z3 z4 z6 z7 z9 z10 zn A B 29) w' (.ok (.value (.string c)) w'))
      refine Steps.cons ?_ ?_
      · intro a' w' hX hK
        rw [ring_agree2 0 0 _ hP rfl hK]
        rw [run_call_known (cap := #[.pointer (some ⟨B, 0, none⟩)]) (vs := #[.string b, .string c]) rfl rfl (by simp only [List.map_toArray, List.map_cons, List.map_nil]; rfl) Tryz.func50 rfl rfl]
        exact fix_add (Rk := (RV w (strs [z1, z1, z2, z2, z3, z3, z6, z6, z9, z9, a, a, ⟨#[48]⟩, ⟨#[48]⟩, z3, z3]) a b c z1 z2 z3 z4 z6 z7 z9 z10 zn A B 30)) hE hX qb qc (by omega) hz4 (by clear hK hP hX; grind) (fun w9 => ⟨0, 0, rfl, fun h => absurd h (by decide), fun h => absurd h (by decide)⟩)
      refine Steps.cons ?_ ?_
      · intro a' w' hX hK
        rw [ring_agree2 0 0 _ hP rfl hK]
        rw [run_call_known (cap := #[.pointer (some ⟨B, 0, none⟩)]) (vs := #[.string a, .string z4]) rfl rfl (by simp only [List.map_toArray, List.map_cons, List.map_nil]; rfl) Tryz.func50 rfl rfl]
        exact fix_add (Rk := (RV w (strs [z1, z1, z2, z2, z3, z3, z6, z6, z9, z9, a, a, ⟨#[48]⟩, ⟨#[48]⟩, z3, z3]) a b c z1 z2 z3 z4 z6 z7 z9 z10 zn A B 31)) hE hX (qa.mono (by omega)) hz4 (by omega) hz3 (by clear hK hP hX; grind) (fun w9 => ⟨0, 0, rfl, fun h => absurd h (by decide), fun h => absurd h (by decide)⟩)
      refine Steps.cons ?_ ?_
      · intro a' w' hX hK
        rw [ring_agree2 0 0 _ hP rfl hK]
        rw [run_pair rfl rfl rfl]
        exact ⟨hX, World.grownBy.refl _ _, 0, 0, rfl, fun h => absurd h (by decide), fun h => absurd h (by decide)⟩
      refine Steps.cons ?_ ?_
      · intro a' w' hX hK
        rw [ring_agree2 0 0 _ hP rfl hK]
        exact (⟨hX, World.grownBy.refl _ _, 0, 0, rfl, fun h => absurd h (by decide), fun h => absurd h (by decide)⟩ : stepUpon Tryz.prog (RX w A B) (RM A) (RV w (strs [z1, z1, z2, z2, z3, z3, z6, z6, z9, z9, a, a, ⟨#[48]⟩, ⟨#[48]⟩, z3, z3]) a b c z1 z2 z3 z4 z6 z7 z9 z10 zn A B 33) w' (.ok (.value (.func (.func 52) #[] #[.pointer (some ⟨B, 0, none⟩)])) w'))
      refine Steps.cons ?_ ?_
      · intro a' w' hX hK
        rw [ring_agree2 0 0 _ hP rfl hK]
        exact (⟨hX, World.grownBy.refl _ _, 0, 0, rfl, fun h => absurd h (by decide), fun h => absurd h (by decide)⟩ : stepUpon Tryz.prog (RX w A B) (RM A) (RV w (strs [z1, z1, z2, z2, z3, z3, z6, z6, z9, z9, a, a, ⟨#[48]⟩, ⟨#[48]⟩, z3, z3]) a b c z1 z2 z3 z4 z6 z7 z9 z10 zn A B 34) w' (.ok (.value (.func (.func 52) #[] #[.pointer (some ⟨B, 0, none⟩)])) w'))
      refine Steps.cons ?_ ?_
      · intro a' w' hX hK
        rw [ring_agree2 0 0 _ hP rfl hK]
        exact (⟨hX, World.grownBy.refl _ _, 0, 0, rfl, fun h => absurd h (by decide), fun h => absurd h (by decide)⟩ : stepUpon Tryz.prog (RX w A B) (RM A) (RV w (strs [z1, z1, z2, z2, z3, z3, z6, z6, z9, z9, a, a, ⟨#[48]⟩, ⟨#[48]⟩, z3, z3]) a b c z1 z2 z3 z4 z6 z7 z9 z10 zn A B 35) w' (.ok (.value (.string a)) w'))
      refine Steps.cons ?_ ?_
      · intro a' w' hX hK
        rw [ring_agree2 0 0 _ hP rfl hK]
        exact (⟨hX, World.grownBy.refl _ _, 0, 0, rfl, fun h => absurd h (by decide), fun h => absurd h (by decide)⟩ : stepUpon Tryz.prog (RX w A B) (RM A) (RV w (strs [z1, z1, z2, z2, z3, z3, z6, z6, z9, z9, a, a, ⟨#[48]⟩, ⟨#[48]⟩, z3, z3]) a b c z1 z2 z3 z4 z6 z7 z9 z10 zn A B 36) w' (.ok (.value (.string b)) w'))
      refine Steps.cons ?_ ?_
      · intro a' w' hX hK
        rw [ring_agree2 0 0 _ hP rfl hK]
        rw [run_call_known (cap := #[.pointer (some ⟨B, 0, none⟩)]) (vs := #[.string a, .string b]) rfl rfl (by simp only [List.map_toArray, List.map_cons, List.map_nil]; rfl) Tryz.func52 rfl rfl]
        exact fix_mul (Rk := (RV w (strs [z1, z1, z2, z2, z3, z3, z6, z6, z9, z9, a, a, ⟨#[48]⟩, ⟨#[48]⟩, z3, z3]) a b c z1 z2 z3 z4 z6 z7 z9 z10 zn A B 37)) hE hX qa qb (by omega) hz2 (by clear hK hP hX; grind) (fun w9 => ⟨0, 0, rfl, fun h => absurd h (by decide), fun h => absurd h (by decide)⟩)
      refine Steps.cons ?_ ?_
      · intro a' w' hX hK
        rw [ring_agree2 0 0 _ hP rfl hK]
        exact (⟨hX, World.grownBy.refl _ _, 0, 0, rfl, fun h => absurd h (by decide), fun h => absurd h (by decide)⟩ : stepUpon Tryz.prog (RX w A B) (RM A) (RV w (strs [z1, z1, z2, z2, z3, z3, z6, z6, z9, z9, a, a, ⟨#[48]⟩, ⟨#[48]⟩, z3, z3]) a b c z1 z2 z3 z4 z6 z7 z9 z10 zn A B 38) w' (.ok (.value (.string c)) w'))
      refine Steps.cons ?_ ?_
      · intro a' w' hX hK
        rw [ring_agree2 0 0 _ hP rfl hK]
        rw [run_call_known (cap := #[.pointer (some ⟨B, 0, none⟩)]) (vs := #[.string z2, .string c]) rfl rfl (by simp only [List.map_toArray, List.map_cons, List.map_nil]; rfl) Tryz.func52 rfl rfl]
        exact fix_mul (Rk := (RV w (strs [z1, z1, z2, z2, z3, z3, z6, z6, z9, z9, a, a, ⟨#[48]⟩, ⟨#[48]⟩, z3, z3]) a b c z1 z2 z3 z4 z6 z7 z9 z10 zn A B 39)) hE hX hz2 (qc.mono (by omega)) (by omega) hz6 (by clear hK hP hX; grind) (fun w9 => ⟨0, 0, rfl, fun h => absurd h (by decide), fun h => absurd h (by decide)⟩)
      refine Steps.cons ?_ ?_
      · intro a' w' hX hK
        rw [ring_agree2 0 0 _ hP rfl hK]
        exact (⟨hX, World.grownBy.refl _ _, 0, 0, rfl, fun h => absurd h (by decide), fun h => absurd h (by decide)⟩ : stepUpon Tryz.prog (RX w A B) (RM A) (RV w (strs [z1, z1, z2, z2, z3, z3, z6, z6, z9, z9, a, a, ⟨#[48]⟩, ⟨#[48]⟩, z3, z3]) a b c z1 z2 z3 z4 z6 z7 z9 z10 zn A B 40) w' (.ok (.value (.func (.func 52) #[] #[.pointer (some ⟨B, 0, none⟩)])) w'))
      refine Steps.cons ?_ ?_
      · intro a' w' hX hK
        rw [ring_agree2 0 0 _ hP rfl hK]
        exact (⟨hX, World.grownBy.refl _ _, 0, 0, rfl, fun h => absurd h (by decide), fun h => absurd h (by decide)⟩ : stepUpon Tryz.prog (RX w A B) (RM A) (RV w (strs [z1, z1, z2, z2, z3, z3, z6, z6, z9, z9, a, a, ⟨#[48]⟩, ⟨#[48]⟩, z3, z3]) a b c z1 z2 z3 z4 z6 z7 z9 z10 zn A B 41) w' (.ok (.value (.string a)) w'))
      refine Steps.cons ?_ ?_
      · intro a' w' hX hK
        rw [ring_agree2 0 0 _ hP rfl hK]
        exact (⟨hX, World.grownBy.refl _ _, 0, 0, rfl, fun h => absurd h (by decide), fun h => absurd h (by decide)⟩ : stepUpon Tryz.prog (RX w A B) (RM A) (RV w (strs [z1, z1, z2, z2, z3, z3, z6, z6, z9, z9, a, a, ⟨#[48]⟩, ⟨#[48]⟩, z3, z3]) a b c z1 z2 z3 z4 z6 z7 z9 z10 zn A B 42) w' (.ok (.value (.func (.func 52) #[] #[.pointer (some ⟨B, 0, none⟩)])) w'))
      refine Steps.cons ?_ ?_
      · intro a' w' hX hK
        rw [ring_agree2 0 0 _ hP rfl hK]
        exact (⟨hX, World.grownBy.refl _ _, 0, 0, rfl, fun h => absurd h (by decide), fun h => absurd h (by decide)⟩ : stepUpon Tryz.prog (RX w A B) (RM A) (RV w (strs [z1, z1, z2, z2, z3, z3, z6, z6, z9, z9, a, a, ⟨#[48]⟩, ⟨#[48]⟩, z3, z3]) a b c z1 z2 z3 z4 z6 z7 z9 z10 zn A B 43) w' (.ok (.value (.string b)) w'))
      refine Steps.cons ?_ ?_
      · intro a' w' hX hK
        rw [ring_agree2 0 0 _ hP rfl hK]
        exact (⟨hX, World.grownBy.refl _ _, 0, 0, rfl, fun h => absurd h (by decide), fun h => absurd h (by decide)⟩ : stepUpon Tryz.prog (RX w A B) (RM A) (RV w (strs [z1, z1, z2, z2, z3, z3, z6, z6, z9, z9, a, a, ⟨#[48]⟩, ⟨#[48]⟩, z3, z3]) a b c z1 z2 z3 z4 z6 z7 z9 z10 zn A B 44) w' (.ok (.value (.string c)) w'))
      refine Steps.cons ?_ ?_
      · intro a' w' hX hK
        rw [ring_agree2 0 0 _ hP rfl hK]
        rw [run_call_known (cap := #[.pointer (some ⟨B, 0, none⟩)]) (vs := #[.string b, .string c]) rfl rfl (by simp only [List.map_toArray, List.map_cons, List.map_nil]; rfl) Tryz.func52 rfl rfl]
        exact fix_mul (Rk := (RV w (strs [z1, z1, z2, z2, z3, z3, z6, z6, z9, z9, a, a, ⟨#[48]⟩, ⟨#[48]⟩, z3, z3]) a b c z1 z2 z3 z4 z6 z7 z9 z10 zn A B 45)) hE hX qb qc (by omega) hz7 (by clear hK hP hX; grind) (fun w9 => ⟨0, 0, rfl, fun h => absurd h (by decide), fun h => absurd h (by decide)⟩)
      refine Steps.cons ?_ ?_
      · intro a' w' hX hK
        rw [ring_agree2 0 0 _ hP rfl hK]
        rw [run_call_known (cap := #[.pointer (some ⟨B, 0, none⟩)]) (vs := #[.string a, .string z7]) rfl rfl (by simp only [List.map_toArray, List.map_cons, List.map_nil]; rfl) Tryz.func52 rfl rfl]
        exact fix_mul (Rk := (RV w (strs [z1, z1, z2, z2, z3, z3, z6, z6, z9, z9, a, a, ⟨#[48]⟩, ⟨#[48]⟩, z3, z3]) a b c z1 z2 z3 z4 z6 z7 z9 z10 zn A B 46)) hE hX (qa.mono (by omega)) hz7 (by omega) hz6 (by clear hK hP hX; grind) (fun w9 => ⟨0, 0, rfl, fun h => absurd h (by decide), fun h => absurd h (by decide)⟩)
      refine Steps.cons ?_ ?_
      · intro a' w' hX hK
        rw [ring_agree2 0 0 _ hP rfl hK]
        rw [run_pair rfl rfl rfl]
        exact ⟨hX, World.grownBy.refl _ _, 0, 0, rfl, fun h => absurd h (by decide), fun h => absurd h (by decide)⟩
      refine Steps.cons ?_ ?_
      · intro a' w' hX hK
        rw [ring_agree2 0 0 _ hP rfl hK]
        exact (⟨hX, World.grownBy.refl _ _, 0, 0, rfl, fun h => absurd h (by decide), fun h => absurd h (by decide)⟩ : stepUpon Tryz.prog (RX w A B) (RM A) (RV w (strs [z1, z1, z2, z2, z3, z3, z6, z6, z9, z9, a, a, ⟨#[48]⟩, ⟨#[48]⟩, z3, z3]) a b c z1 z2 z3 z4 z6 z7 z9 z10 zn A B 48) w' (.ok (.value (.func (.func 52) #[] #[.pointer (some ⟨B, 0, none⟩)])) w'))
      refine Steps.cons ?_ ?_
      · intro a' w' hX hK
        rw [ring_agree2 0 0 _ hP rfl hK]
        exact (⟨hX, World.grownBy.refl _ _, 0, 0, rfl, fun h => absurd h (by decide), fun h => absurd h (by decide)⟩ : stepUpon Tryz.prog (RX w A B) (RM A) (RV w (strs [z1, z1, z2, z2, z3, z3, z6, z6, z9, z9, a, a, ⟨#[48]⟩, ⟨#[48]⟩, z3, z3]) a b c z1 z2 z3 z4 z6 z7 z9 z10 zn A B 49) w' (.ok (.value (.string a)) w'))
      refine Steps.cons ?_ ?_
      · intro a' w' hX hK
        rw [ring_agree2 0 0 _ hP rfl hK]
        exact (⟨hX, World.grownBy.refl _ _, 0, 0, rfl, fun h => absurd h (by decide), fun h => absurd h (by decide)⟩ : stepUpon Tryz.prog (RX w A B) (RM A) (RV w (strs [z1, z1, z2, z2, z3, z3, z6, z6, z9, z9, a, a, ⟨#[48]⟩, ⟨#[48]⟩, z3, z3]) a b c z1 z2 z3 z4 z6 z7 z9 z10 zn A B 50) w' (.ok (.value (.func (.func 50) #[] #[.pointer (some ⟨B, 0, none⟩)])) w'))
      refine Steps.cons ?_ ?_
      · intro a' w' hX hK
        rw [ring_agree2 0 0 _ hP rfl hK]
        exact (⟨hX, World.grownBy.refl _ _, 0, 0, rfl, fun h => absurd h (by decide), fun h => absurd h (by decide)⟩ : stepUpon Tryz.prog (RX w A B) (RM A) (RV w (strs [z1, z1, z2, z2, z3, z3, z6, z6, z9, z9, a, a, ⟨#[48]⟩, ⟨#[48]⟩, z3, z3]) a b c z1 z2 z3 z4 z6 z7 z9 z10 zn A B 51) w' (.ok (.value (.string b)) w'))
      refine Steps.cons ?_ ?_
      · intro a' w' hX hK
        rw [ring_agree2 0 0 _ hP rfl hK]
        exact (⟨hX, World.grownBy.refl _ _, 0, 0, rfl, fun h => absurd h (by decide), fun h => absurd h (by decide)⟩ : stepUpon Tryz.prog (RX w A B) (RM A) (RV w (strs [z1, z1, z2, z2, z3, z3, z6, z6, z9, z9, a, a, ⟨#[48]⟩, ⟨#[48]⟩, z3, z3]) a b c z1 z2 z3 z4 z6 z7 z9 z10 zn A B 52) w' (.ok (.value (.string c)) w'))
      refine Steps.cons ?_ ?_
      · intro a' w' hX hK
        rw [ring_agree2 0 0 _ hP rfl hK]
        rw [run_call_known (cap := #[.pointer (some ⟨B, 0, none⟩)]) (vs := #[.string b, .string c]) rfl rfl (by simp only [List.map_toArray, List.map_cons, List.map_nil]; rfl) Tryz.func50 rfl rfl]
        exact fix_add (Rk := (RV w (strs [z1, z1, z2, z2, z3, z3, z6, z6, z9, z9, a, a, ⟨#[48]⟩, ⟨#[48]⟩, z3, z3]) a b c z1 z2 z3 z4 z6 z7 z9 z10 zn A B 53)) hE hX qb qc (by omega) hz4 (by clear hK hP hX; grind) (fun w9 => ⟨0, 0, rfl, fun h => absurd h (by decide), fun h => absurd h (by decide)⟩)
      refine Steps.cons ?_ ?_
      · intro a' w' hX hK
        rw [ring_agree2 0 0 _ hP rfl hK]
        rw [run_call_known (cap := #[.pointer (some ⟨B, 0, none⟩)]) (vs := #[.string a, .string z4]) rfl rfl (by simp only [List.map_toArray, List.map_cons, List.map_nil]; rfl) Tryz.func52 rfl rfl]
        exact fix_mul (Rk := (RV w (strs [z1, z1, z2, z2, z3, z3, z6, z6, z9, z9, a, a, ⟨#[48]⟩, ⟨#[48]⟩, z3, z3]) a b c z1 z2 z3 z4 z6 z7 z9 z10 zn A B 54)) hE hX (qa.mono (by omega)) hz4 (by omega) hz9 (by clear hK hP hX; grind) (fun w9 => ⟨0, 0, rfl, fun h => absurd h (by decide), fun h => absurd h (by decide)⟩)
      refine Steps.cons ?_ ?_
      · intro a' w' hX hK
        rw [ring_agree2 0 0 _ hP rfl hK]
        exact (⟨hX, World.grownBy.refl _ _, 0, 0, rfl, fun h => absurd h (by decide), fun h => absurd h (by decide)⟩ : stepUpon Tryz.prog (RX w A B) (RM A) (RV w (strs [z1, z1, z2, z2, z3, z3, z6, z6, z9, z9, a, a, ⟨#[48]⟩, ⟨#[48]⟩, z3, z3]) a b c z1 z2 z3 z4 z6 z7 z9 z10 zn A B 55) w' (.ok (.value (.func (.func 50) #[] #[.pointer (some ⟨B, 0, none⟩)])) w'))
      refine Steps.cons ?_ ?_
      · intro a' w' hX hK
        rw [ring_agree2 0 0 _ hP rfl hK]
        exact (⟨hX, World.grownBy.refl _ _, 0, 0, rfl, fun h => absurd h (by decide), fun h => absurd h (by decide)⟩ : stepUpon Tryz.prog (RX w A B) (RM A) (RV w (strs [z1, z1, z2, z2, z3, z3, z6, z6, z9, z9, a, a, ⟨#[48]⟩, ⟨#[48]⟩, z3, z3]) a b c z1 z2 z3 z4 z6 z7 z9 z10 zn A B 56) w' (.ok (.value (.func (.func 52) #[] #[.pointer (some ⟨B, 0, none⟩)])) w'))
      refine Steps.cons ?_ ?_
      · intro a' w' hX hK
        rw [ring_agree2 0 0 _ hP rfl hK]
        exact (⟨hX, World.grownBy.refl _ _, 0, 0, rfl, fun h => absurd h (by decide), fun h => absurd h (by decide)⟩ : stepUpon Tryz.prog (RX w A B) (RM A) (RV w (strs [z1, z1, z2, z2, z3, z3, z6, z6, z9, z9, a, a, ⟨#[48]⟩, ⟨#[48]⟩, z3, z3]) a b c z1 z2 z3 z4 z6 z7 z9 z10 zn A B 57) w' (.ok (.value (.string a)) w'))
      refine Steps.cons ?_ ?_
      · intro a' w' hX hK
        rw [ring_agree2 0 0 _ hP rfl hK]
        exact (⟨hX, World.grownBy.refl _ _, 0, 0, rfl, fun h => absurd h (by decide), fun h => absurd h (by decide)⟩ : stepUpon Tryz.prog (RX w A B) (RM A) (RV w (strs [z1, z1, z2, z2, z3, z3, z6, z6, z9, z9, a, a, ⟨#[48]⟩, ⟨#[48]⟩, z3, z3]) a b c z1 z2 z3 z4 z6 z7 z9 z10 zn A B 58) w' (.ok (.value (.string b)) w'))
      refine Steps.cons ?_ ?_
      · intro a' w' hX hK
        rw [ring_agree2 0 0 _ hP rfl hK]
        rw [run_call_known (cap := #[.pointer (some ⟨B, 0, none⟩)]) (vs := #[.string a, .string b]) rfl rfl (by simp only [List.map_toArray, List.map_cons, List.map_nil]; rfl) Tryz.func52 rfl rfl]
        exact fix_mul (Rk := (RV w (strs [z1, z1, z2, z2, z3, z3, z6, z6, z9, z9, a, a, ⟨#[48]⟩, ⟨#[48]⟩, z3, z3]) a b c z1 z2 z3 z4 z6 z7 z9 z10 zn A B 59)) hE hX qa qb (by omega) hz2 (by clear hK hP hX; grind) (fun w9 => ⟨0, 0, rfl, fun h => absurd h (by decide), fun h => absurd h (by decide)⟩)
      refine Steps.cons ?_ ?_
      · intro a' w' hX hK
        rw [ring_agree2 0 0 _ hP rfl hK]
        exact (⟨hX, World.grownBy.refl _ _, 0, 0, rfl, fun h => absurd h (by decide), fun h => absurd h (by decide)⟩ : stepUpon Tryz.prog (RX w A B) (RM A) (RV w (strs [z1, z1, z2, z2, z3, z3, z6, z6, z9, z9, a, a, ⟨#[48]⟩, ⟨#[48]⟩, z3, z3]) a b c z1 z2 z3 z4 z6 z7 z9 z10 zn A B 60) w' (.ok (.value (.func (.func 52) #[] #[.pointer (some ⟨B, 0, none⟩)])) w'))
      refine Steps.cons ?_ ?_
      · intro a' w' hX hK
        rw [ring_agree2 0 0 _ hP rfl hK]
        exact (⟨hX, World.grownBy.refl _ _, 0, 0, rfl, fun h => absurd h (by decide), fun h => absurd h (by decide)⟩ : stepUpon Tryz.prog (RX w A B) (RM A) (RV w (strs [z1, z1, z2, z2, z3, z3, z6, z6, z9, z9, a, a, ⟨#[48]⟩, ⟨#[48]⟩, z3, z3]) a b c z1 z2 z3 z4 z6 z7 z9 z10 zn A B 61) w' (.ok (.value (.string a)) w'))
      refine Steps.cons ?_ ?_
      · intro a' w' hX hK
        rw [ring_agree2 0 0 _ hP rfl hK]
        exact (⟨hX, World.grownBy.refl _ _, 0, 0, rfl, fun h => absurd h (by decide), fun h => absurd h (by decide)⟩ : stepUpon Tryz.prog (RX w A B) (RM A) (RV w (strs [z1, z1, z2, z2, z3, z3, z6, z6, z9, z9, a, a, ⟨#[48]⟩, ⟨#[48]⟩, z3, z3]) a b c z1 z2 z3 z4 z6 z7 z9 z10 zn A B 62) w' (.ok (.value (.string c)) w'))
      refine Steps.cons ?_ ?_
      · intro a' w' hX hK
        rw [ring_agree2 0 0 _ hP rfl hK]
        rw [run_call_known (cap := #[.pointer (some ⟨B, 0, none⟩)]) (vs := #[.string a, .string c]) rfl rfl (by simp only [List.map_toArray, List.map_cons, List.map_nil]; rfl) Tryz.func52 rfl rfl]
        exact fix_mul (Rk := (RV w (strs [z1, z1, z2, z2, z3, z3, z6, z6, z9, z9, a, a, ⟨#[48]⟩, ⟨#[48]⟩, z3, z3]) a b c z1 z2 z3 z4 z6 z7 z9 z10 zn A B 63)) hE hX qa qc (by omega) hz10 (by clear hK hP hX; grind) (fun w9 => ⟨0, 0, rfl, fun h => absurd h (by decide), fun h => absurd h (by decide)⟩)
      refine Steps.cons ?_ ?_
      · intro a' w' hX hK
        rw [ring_agree2 0 0 _ hP rfl hK]
        rw [run_call_known (cap := #[.pointer (some ⟨B, 0, none⟩)]) (vs := #[.string z2, .string z10]) rfl rfl (by simp only [List.map_toArray, List.map_cons, List.map_nil]; rfl) Tryz.func50 rfl rfl]
        exact fix_add (Rk := (RV w (strs [z1, z1, z2, z2, z3, z3, z6, z6, z9, z9, a, a, ⟨#[48]⟩, ⟨#[48]⟩, z3, z3]) a b c z1 z2 z3 z4 z6 z7 z9 z10 zn A B 64)) hE hX hz2 hz10 (by omega) hz9 (by clear hK hP hX; grind) (fun w9 => ⟨0, 0, rfl, fun h => absurd h (by decide), fun h => absurd h (by decide)⟩)
      refine Steps.cons ?_ ?_
      · intro a' w' hX hK
        rw [ring_agree2 0 0 _ hP rfl hK]
        rw [run_pair rfl rfl rfl]
        exact ⟨hX, World.grownBy.refl _ _, 0, 0, rfl, fun h => absurd h (by decide), fun h => absurd h (by decide)⟩
      refine Steps.cons ?_ ?_
      · intro a' w' hX hK
        rw [ring_agree2 0 0 _ hP rfl hK]
        rw [run_load_sums rfl rfl hX.ring.cellB]
        exact ⟨hX, World.grownBy.refl _ _, 0, 0, rfl, fun h => absurd h (by decide), fun h => absurd h (by decide)⟩
      refine Steps.cons ?_ ?_
      · intro a' w' hX hK
        rw [ring_agree2 0 0 _ hP rfl hK]
        exact (⟨hX, World.grownBy.refl _ _, 0, 0, rfl, fun h => absurd h (by decide), fun h => absurd h (by decide)⟩ : stepUpon Tryz.prog (RX w A B) (RM A) (RV w (strs [z1, z1, z2, z2, z3, z3, z6, z6, z9, z9, a, a, ⟨#[48]⟩, ⟨#[48]⟩, z3, z3]) a b c z1 z2 z3 z4 z6 z7 z9 z10 zn A B 67) w' (.ok (.value (.func (.func 50) #[] #[.pointer (some ⟨B, 0, none⟩)])) w'))
      refine Steps.cons ?_ ?_
      · intro a' w' hX hK
        rw [ring_agree2 0 0 _ hP rfl hK]
        exact (⟨hX, World.grownBy.refl _ _, 0, 0, rfl, fun h => absurd h (by decide), fun h => absurd h (by decide)⟩ : stepUpon Tryz.prog (RX w A B) (RM A) (RV w (strs [z1, z1, z2, z2, z3, z3, z6, z6, z9, z9, a, a, ⟨#[48]⟩, ⟨#[48]⟩, z3, z3]) a b c z1 z2 z3 z4 z6 z7 z9 z10 zn A B 68) w' (.ok (.value (.string a)) w'))
      refine Steps.cons ?_ ?_
      · intro a' w' hX hK
        rw [ring_agree2 0 0 _ hP rfl hK]
        exact (⟨hX, World.grownBy.refl _ _, 0, 0, rfl, fun h => absurd h (by decide), fun h => absurd h (by decide)⟩ : stepUpon Tryz.prog (RX w A B) (RM A) (RV w (strs [z1, z1, z2, z2, z3, z3, z6, z6, z9, z9, a, a, ⟨#[48]⟩, ⟨#[48]⟩, z3, z3]) a b c z1 z2 z3 z4 z6 z7 z9 z10 zn A B 69) w' (.ok (.value (.string b)) w'))
      refine Steps.cons ?_ ?_
      · intro a' w' hX hK
        rw [ring_agree2 0 0 _ hP rfl hK]
        rw [run_call_known (cap := #[.pointer (some ⟨B, 0, none⟩)]) (vs := #[.string a, .string b]) rfl rfl (by simp only [List.map_toArray, List.map_cons, List.map_nil]; rfl) Tryz.func50 rfl rfl]
        exact fix_add (Rk := (RV w (strs [z1, z1, z2, z2, z3, z3, z6, z6, z9, z9, a, a, ⟨#[48]⟩, ⟨#[48]⟩, z3, z3]) a b c z1 z2 z3 z4 z6 z7 z9 z10 zn A B 70)) hE hX qa qb (by omega) hz1 (by clear hK hP hX; grind) (fun w9 => ⟨0, 0, rfl, fun h => absurd h (by decide), fun h => absurd h (by decide)⟩)
      refine Steps.cons ?_ ?_
      · intro a' w' hX hK
        rw [ring_agree2 0 0 _ hP rfl hK]
        exact (⟨hX, World.grownBy.refl _ _, 0, 0, rfl, fun h => absurd h (by decide), fun h => absurd h (by decide)⟩ : stepUpon Tryz.prog (RX w A B) (RM A) (RV w (strs [z1, z1, z2, z2, z3, z3, z6, z6, z9, z9, a, a, ⟨#[48]⟩, ⟨#[48]⟩, z3, z3]) a b c z1 z2 z3 z4 z6 z7 z9 z10 zn A B 71) w' (.ok (.value (.string b)) w'))
      refine Steps.cons ?_ ?_
      · intro a' w' hX hK
        rw [ring_agree2 0 0 _ hP rfl hK]
        rw [run_call_known (cap := #[]) (vs := #[.string z1, .string b]) rfl rfl (by simp only [List.map_toArray, List.map_cons, List.map_nil]; rfl) Tryz.func21 rfl rfl]
        exact (call_Sub 61 z1 b _ _ m q _ (hE.below hX.below) hz1 (qb.mono (by omega)) (by omega)).mono fun _ _ h => fix_res (Rk := (RV w (strs [z1, z1, z2, z2, z3, z3, z6, z6, z9, z9, a, a, ⟨#[48]⟩, ⟨#[48]⟩, z3, z3]) a b c z1 z2 z3 z4 z6 z7 z9 z10 zn A B 72)) hX h qa (by clear hK hP hX h; grind) (fun w9 => ⟨0, 0, rfl, fun h => absurd h (by decide), fun h => absurd h (by decide)⟩)
      refine Steps.cons ?_ ?_
      · intro a' w' hX hK
        rw [ring_agree2 0 0 _ hP rfl hK]
        exact (⟨hX, World.grownBy.refl _ _, 0, 0, rfl, fun h => absurd h (by decide), fun h => absurd h (by decide)⟩ : stepUpon Tryz.prog (RX w A B) (RM A) (RV w (strs [z1, z1, z2, z2, z3, z3, z6, z6, z9, z9, a, a, ⟨#[48]⟩, ⟨#[48]⟩, z3, z3]) a b c z1 z2 z3 z4 z6 z7 z9 z10 zn A B 73) w' (.ok (.value (.string a)) w'))
      refine Steps.cons ?_ ?_
      · intro a' w' hX hK
        rw [ring_agree2 0 0 _ hP rfl hK]
        exact (⟨hX, World.grownBy.refl _ _, 0, 0, rfl, fun h => absurd h (by decide), fun h => absurd h (by decide)⟩ : stepUpon Tryz.prog (RX w A B) (RM A) (RV w (strs [z1, z1, z2, z2, z3, z3, z6, z6, z9, z9, a, a, ⟨#[48]⟩, ⟨#[48]⟩, z3, z3]) a b c z1 z2 z3 z4 z6 z7 z9 z10 zn A B 74) w' (.ok (.value (.int .i64 0)) w'))
      refine Steps.cons ?_ ?_
      · intro a' w' hX hK
        rw [ring_agree2 0 0 _ hP rfl hK]
        rw [run_call_known (cap := #[]) (vs := #[.pointer (some ⟨A, 0, none⟩), .string a, .int .i64 0]) rfl rfl (by simp only [List.map_toArray, List.map_cons, List.map_nil]; rfl) Tryz.func51 rfl rfl]
        exact fix_of (Rk := (RV w (strs [z1, z1, z2, z2, z3, z3, z6, z6, z9, z9, a, a, ⟨#[48]⟩, ⟨#[48]⟩, z3, z3]) a b c z1 z2 z3 z4 z6 z7 z9 z10 zn A B 75)) hX (fun w9 => ⟨0, 0, rfl, fun h => absurd h (by decide), fun h => absurd h (by decide)⟩)
      refine Steps.cons ?_ ?_
      · intro a' w' hX hK
        rw [ring_agree2 0 0 _ hP rfl hK]
        exact (⟨hX, World.grownBy.refl _ _, 0, 0, rfl, fun h => absurd h (by decide), fun h => absurd h (by decide)⟩ : stepUpon Tryz.prog (RX w A B) (RM A) (RV w (strs [z1, z1, z2, z2, z3, z3, z6, z6, z9, z9, a, a, ⟨#[48]⟩, ⟨#[48]⟩, z3, z3]) a b c z1 z2 z3 z4 z6 z7 z9 z10 zn A B 76) w' (.ok (.value (.string a)) w'))
      refine Steps.cons ?_ ?_
      · intro a' w' hX hK
        rw [ring_agree2 0 0 _ hP rfl hK]
        rw [run_pair rfl rfl rfl]
        exact ⟨hX, World.grownBy.refl _ _, 0, 0, rfl, fun h => absurd h (by decide), fun h => absurd h (by decide)⟩
      refine Steps.cons ?_ ?_
      · intro a' w' hX hK
        rw [ring_agree2 0 0 _ hP rfl hK]
        exact (⟨hX, World.grownBy.refl _ _, 0, 0, rfl, fun h => absurd h (by decide), fun h => absurd h (by decide)⟩ : stepUpon Tryz.prog (RX w A B) (RM A) (RV w (strs [z1, z1, z2, z2, z3, z3, z6, z6, z9, z9, a, a, ⟨#[48]⟩, ⟨#[48]⟩, z3, z3]) a b c z1 z2 z3 z4 z6 z7 z9 z10 zn A B 78) w' (.ok (.value (.func (.func 50) #[] #[.pointer (some ⟨B, 0, none⟩)])) w'))
      refine Steps.cons ?_ ?_
      · intro a' w' hX hK
        rw [ring_agree2 0 0 _ hP rfl hK]
        exact (⟨hX, World.grownBy.refl _ _, 0, 0, rfl, fun h => absurd h (by decide), fun h => absurd h (by decide)⟩ : stepUpon Tryz.prog (RX w A B) (RM A) (RV w (strs [z1, z1, z2, z2, z3, z3, z6, z6, z9, z9, a, a, ⟨#[48]⟩, ⟨#[48]⟩, z3, z3]) a b c z1 z2 z3 z4 z6 z7 z9 z10 zn A B 79) w' (.ok (.value (.string a)) w'))
      refine Steps.cons ?_ ?_
      · intro a' w' hX hK
        rw [ring_agree2 0 0 _ hP rfl hK]
        rw [run_load_sums rfl rfl hX.ring.cellB]
        exact ⟨hX, World.grownBy.refl _ _, 0, 0, rfl, fun h => absurd h (by decide), fun h => absurd h (by decide)⟩
      refine Steps.cons ?_ ?_
      · intro a' w' hX hK
        rw [ring_agree2 0 0 _ hP rfl hK]
        exact (⟨hX, World.grownBy.refl _ _, 0, 0, rfl, fun h => absurd h (by decide), fun h => absurd h (by decide)⟩ : stepUpon Tryz.prog (RX w A B) (RM A) (RV w (strs [z1, z1, z2, z2, z3, z3, z6, z6, z9, z9, a, a, ⟨#[48]⟩, ⟨#[48]⟩, z3, z3]) a b c z1 z2 z3 z4 z6 z7 z9 z10 zn A B 81) w' (.ok (.value (.string a)) w'))
      refine Steps.cons ?_ ?_
      · intro a' w' hX hK
        rw [ring_agree2 0 0 _ hP rfl hK]
        rw [run_call_known (cap := #[]) (vs := #[.string a]) rfl rfl (by simp only [List.map_toArray, List.map_cons, List.map_nil]; rfl) Tryz.func43 rfl rfl]
        exact (call_Neg 30 a n p _ (hE.below hX.below) qa (by omega)).mono fun _ _ h => fix_res (Rk := (RV w (strs [z1, z1, z2, z2, z3, z3, z6, z6, z9, z9, a, a, ⟨#[48]⟩, ⟨#[48]⟩, z3, z3]) a b c z1 z2 z3 z4 z6 z7 z9 z10 zn A B 82)) hX h hzn (by clear hK hP hX h; grind) (fun w9 => ⟨0, 0, rfl, fun h => absurd h (by decide), fun h => absurd h (by decide)⟩)
      refine Steps.cons ?_ ?_
      · intro a' w' hX hK
        rw [ring_agree2 0 0 _ hP rfl hK]
        exact (⟨hX, World.grownBy.refl _ _, 0, 0, rfl, fun h => absurd h (by decide), fun h => absurd h (by decide)⟩ : stepUpon Tryz.prog (RX w A B) (RM A) (RV w (strs [z1, z1, z2, z2, z3, z3, z6, z6, z9, z9, a, a, ⟨#[48]⟩, ⟨#[48]⟩, z3, z3]) a b c z1 z2 z3 z4 z6 z7 z9 z10 zn A B 83) w' (.ok (.value (.string zn)) w'))
      refine Steps.cons ?_ ?_
      · intro a' w' hX hK
        rw [ring_agree2 0 0 _ hP rfl hK]
        exact (⟨hX, World.grownBy.refl _ _, 0, 0, rfl, fun h => absurd h (by decide), fun h => absurd h (by decide)⟩ : stepUpon Tryz.prog (RX w A B) (RM A) (RV w (strs [z1, z1, z2, z2, z3, z3, z6, z6, z9, z9, a, a, ⟨#[48]⟩, ⟨#[48]⟩, z3, z3]) a b c z1 z2 z3 z4 z6 z7 z9 z10 zn A B 84) w' (.ok (.value (.int .i64 0)) w'))
      refine Steps.cons ?_ ?_
      · intro a' w' hX hK
        rw [ring_agree2 0 0 _ hP rfl hK]
        rw [run_call_known (cap := #[]) (vs := #[.pointer (some ⟨A, 0, none⟩), .string zn, .int .i64 0]) rfl rfl (by simp only [List.map_toArray, List.map_cons, List.map_nil]; rfl) Tryz.func51 rfl rfl]
        exact fix_of (Rk := (RV w (strs [z1, z1, z2, z2, z3, z3, z6, z6, z9, z9, a, a, ⟨#[48]⟩, ⟨#[48]⟩, z3, z3]) a b c z1 z2 z3 z4 z6 z7 z9 z10 zn A B 85)) hX (fun w9 => ⟨0, 0, rfl, fun h => absurd h (by decide), fun h => absurd h (by decide)⟩)
      refine Steps.cons ?_ ?_
      · intro a' w' hX hK
        rw [ring_agree2 0 0 _ hP rfl hK]
        rw [run_call_known (cap := #[.pointer (some ⟨B, 0, none⟩)]) (vs := #[.string a, .string zn]) rfl rfl (by simp only [List.map_toArray, List.map_cons, List.map_nil]; rfl) Tryz.func50 rfl rfl]
        exact fix_add (Rk := (RV w (strs [z1, z1, z2, z2, z3, z3, z6, z6, z9, z9, a, a, ⟨#[48]⟩, ⟨#[48]⟩, z3, z3]) a b c z1 z2 z3 z4 z6 z7 z9 z10 zn A B 86)) hE hX qa hzn (by omega) hz0 (by clear hK hP hX; grind) (fun w9 => ⟨0, 0, rfl, fun h => absurd h (by decide), fun h => absurd h (by decide)⟩)
      refine Steps.cons ?_ ?_
      · intro a' w' hX hK
        rw [ring_agree2 0 0 _ hP rfl hK]
        rw [run_pair rfl rfl rfl]
        exact ⟨hX, World.grownBy.refl _ _, 0, 0, rfl, fun h => absurd h (by decide), fun h => absurd h (by decide)⟩
      refine Steps.cons ?_ ?_
      · intro a' w' hX hK
        rw [ring_agree2 0 0 _ hP rfl hK]
        rw [run_load_sums rfl rfl hX.ring.cellB]
        exact ⟨hX, World.grownBy.refl _ _, 0, 0, rfl, fun h => absurd h (by decide), fun h => absurd h (by decide)⟩
      refine Steps.cons ?_ ?_
      · intro a' w' hX hK
        rw [ring_agree2 0 0 _ hP rfl hK]
        exact (⟨hX, World.grownBy.refl _ _, 0, 0, rfl, fun h => absurd h (by decide), fun h => absurd h (by decide)⟩ : stepUpon Tryz.prog (RX w A B) (RM A) (RV w (strs [z1, z1, z2, z2, z3, z3, z6, z6, z9, z9, a, a, ⟨#[48]⟩, ⟨#[48]⟩, z3, z3]) a b c z1 z2 z3 z4 z6 z7 z9 z10 zn A B 89) w' (.ok (.value (.string a)) w'))
      refine Steps.cons ?_ ?_
      · intro a' w' hX hK
        rw [ring_agree2 0 0 _ hP rfl hK]
        exact (⟨hX, World.grownBy.refl _ _, 0, 0, rfl, fun h => absurd h (by decide), fun h => absurd h (by decide)⟩ : stepUpon Tryz.prog (RX w A B) (RM A) (RV w (strs [z1, z1, z2, z2, z3, z3, z6, z6, z9, z9, a, a, ⟨#[48]⟩, ⟨#[48]⟩, z3, z3]) a b c z1 z2 z3 z4 z6 z7 z9 z10 zn A B 90) w' (.ok (.value (.string b)) w'))
      refine Steps.cons ?_ ?_
      · intro a' w' hX hK
        rw [ring_agree2 0 0 _ hP rfl hK]
        exact (⟨hX, World.grownBy.refl _ _, 0, 0, rfl, fun h => absurd h (by decide), fun h => absurd h (by decide)⟩ : stepUpon Tryz.prog (RX w A B) (RM A) (RV w (strs [z1, z1, z2, z2, z3, z3, z6, z6, z9, z9, a, a, ⟨#[48]⟩, ⟨#[48]⟩, z3, z3]) a b c z1 z2 z3 z4 z6 z7 z9 z10 zn A B 91) w' (.ok (.value (.string c)) w'))
      refine Steps.cons ?_ ?_
      · intro a' w' hX hK
        rw [ring_agree2 0 0 _ hP rfl hK]
        rw [run_row3 rfl rfl rfl rfl]
        exact ⟨hX.alloc _, RM.alloc A w' _, w'.heap.size, 0, rfl, fun _ => ⟨row_new w' _ _, fun e => by have := hX.ring.rowA.lt; omega⟩, fun h => absurd h (by decide)⟩
      refine Steps.cons ?_ ?_
      · intro a' w' hX hK
        exact sum_step hE rfl hK hX qa qb qc hz3
      refine Steps.cons ?_ ?_
      · intro a' w' hX hK
        rw [ring_agree2 0 0 _ hP rfl hK]
        exact (⟨hX, World.grownBy.refl _ _, 0, 0, rfl, fun h => absurd h (by decide), fun h => absurd h (by decide)⟩ : stepUpon Tryz.prog (RX w A B) (RM A) (RV w (strs [z1, z1, z2, z2, z3, z3, z6, z6, z9, z9, a, a, ⟨#[48]⟩, ⟨#[48]⟩, z3, z3]) a b c z1 z2 z3 z4 z6 z7 z9 z10 zn A B 94) w' (.ok (.value (.string z3)) w'))
      refine Steps.cons ?_ ?_
      · intro a' w' hX hK
        rw [ring_agree2 0 0 _ hP rfl hK]
        exact (⟨hX, World.grownBy.refl _ _, 0, 0, rfl, fun h => absurd h (by decide), fun h => absurd h (by decide)⟩ : stepUpon Tryz.prog (RX w A B) (RM A) (RV w (strs [z1, z1, z2, z2, z3, z3, z6, z6, z9, z9, a, a, ⟨#[48]⟩, ⟨#[48]⟩, z3, z3]) a b c z1 z2 z3 z4 z6 z7 z9 z10 zn A B 95) w' (.ok (.value (.int .i64 0)) w'))
      refine Steps.cons ?_ ?_
      · intro a' w' hX hK
        rw [ring_agree2 0 0 _ hP rfl hK]
        rw [run_call_known (cap := #[]) (vs := #[.pointer (some ⟨A, 0, none⟩), .string z3, .int .i64 0]) rfl rfl (by simp only [List.map_toArray, List.map_cons, List.map_nil]; rfl) Tryz.func51 rfl rfl]
        exact fix_of (Rk := (RV w (strs [z1, z1, z2, z2, z3, z3, z6, z6, z9, z9, a, a, ⟨#[48]⟩, ⟨#[48]⟩, z3, z3]) a b c z1 z2 z3 z4 z6 z7 z9 z10 zn A B 96)) hX (fun w9 => ⟨0, 0, rfl, fun h => absurd h (by decide), fun h => absurd h (by decide)⟩)
      refine Steps.cons ?_ ?_
      · intro a' w' hX hK
        rw [ring_agree2 0 0 _ hP rfl hK]
        exact (⟨hX, World.grownBy.refl _ _, 0, 0, rfl, fun h => absurd h (by decide), fun h => absurd h (by decide)⟩ : stepUpon Tryz.prog (RX w A B) (RM A) (RV w (strs [z1, z1, z2, z2, z3, z3, z6, z6, z9, z9, a, a, ⟨#[48]⟩, ⟨#[48]⟩, z3, z3]) a b c z1 z2 z3 z4 z6 z7 z9 z10 zn A B 97) w' (.ok (.value (.func (.func 50) #[] #[.pointer (some ⟨B, 0, none⟩)])) w'))
      refine Steps.cons ?_ ?_
      · intro a' w' hX hK
        rw [ring_agree2 0 0 _ hP rfl hK]
        exact (⟨hX, World.grownBy.refl _ _, 0, 0, rfl, fun h => absurd h (by decide), fun h => absurd h (by decide)⟩ : stepUpon Tryz.prog (RX w A B) (RM A) (RV w (strs [z1, z1, z2, z2, z3, z3, z6, z6, z9, z9, a, a, ⟨#[48]⟩, ⟨#[48]⟩, z3, z3]) a b c z1 z2 z3 z4 z6 z7 z9 z10 zn A B 98) w' (.ok (.value (.string a)) w'))
      refine Steps.cons ?_ ?_
      · intro a' w' hX hK
        rw [ring_agree2 0 0 _ hP rfl hK]
        exact (⟨hX, World.grownBy.refl _ _, 0, 0, rfl, fun h => absurd h (by decide), fun h => absurd h (by decide)⟩ : stepUpon Tryz.prog (RX w A B) (RM A) (RV w (strs [z1, z1, z2, z2, z3, z3, z6, z6, z9, z9, a, a, ⟨#[48]⟩, ⟨#[48]⟩, z3, z3]) a b c z1 z2 z3 z4 z6 z7 z9 z10 zn A B 99) w' (.ok (.value (.func (.func 50) #[] #[.pointer (some ⟨B, 0, none⟩)])) w'))
      refine Steps.cons ?_ ?_
      · intro a' w' hX hK
        rw [ring_agree2 0 0 _ hP rfl hK]
        exact (⟨hX, World.grownBy.refl _ _, 0, 0, rfl, fun h => absurd h (by decide), fun h => absurd h (by decide)⟩ : stepUpon Tryz.prog (RX w A B) (RM A) (RV w (strs [z1, z1, z2, z2, z3, z3, z6, z6, z9, z9, a, a, ⟨#[48]⟩, ⟨#[48]⟩, z3, z3]) a b c z1 z2 z3 z4 z6 z7 z9 z10 zn A B 100) w' (.ok (.value (.string b)) w'))
      refine Steps.cons ?_ ?_
      · intro a' w' hX hK
        rw [ring_agree2 0 0 _ hP rfl hK]
        exact (⟨hX, World.grownBy.refl _ _, 0, 0, rfl, fun h => absurd h (by decide), fun h => absurd h (by decide)⟩ : stepUpon Tryz.prog (RX w A B) (RM A) (RV w (strs [z1, z1, z2, z2, z3, z3, z6, z6, z9, z9, a, a, ⟨#[48]⟩, ⟨#[48]⟩, z3, z3]) a b c z1 z2 z3 z4 z6 z7 z9 z10 zn A B 101) w' (.ok (.value (.string c)) w'))
      refine Steps.cons ?_ ?_
      · intro a' w' hX hK
        rw [ring_agree2 0 0 _ hP rfl hK]
        rw [run_call_known (cap := #[.pointer (some ⟨B, 0, none⟩)]) (vs := #[.string b, .string c]) rfl rfl (by simp only [List.map_toArray, List.map_cons, List.map_nil]; rfl) Tryz.func50 rfl rfl]
        exact fix_add (Rk := (RV w (strs [z1, z1, z2, z2, z3, z3, z6, z6, z9, z9, a, a, ⟨#[48]⟩, ⟨#[48]⟩, z3, z3]) a b c z1 z2 z3 z4 z6 z7 z9 z10 zn A B 102)) hE hX qb qc (by omega) hz4 (by clear hK hP hX; grind) (fun w9 => ⟨0, 0, rfl, fun h => absurd h (by decide), fun h => absurd h (by decide)⟩)
      refine Steps.cons ?_ ?_
      · intro a' w' hX hK
        rw [ring_agree2 0 0 _ hP rfl hK]
        rw [run_call_known (cap := #[.pointer (some ⟨B, 0, none⟩)]) (vs := #[.string a, .string z4]) rfl rfl (by simp only [List.map_toArray, List.map_cons, List.map_nil]; rfl) Tryz.func50 rfl rfl]
        exact fix_add (Rk := (RV w (strs [z1, z1, z2, z2, z3, z3, z6, z6, z9, z9, a, a, ⟨#[48]⟩, ⟨#[48]⟩, z3, z3]) a b c z1 z2 z3 z4 z6 z7 z9 z10 zn A B 103)) hE hX (qa.mono (by omega)) hz4 (by omega) hz3 (by clear hK hP hX; grind) (fun w9 => ⟨0, 0, rfl, fun h => absurd h (by decide), fun h => absurd h (by decide)⟩)
      refine Steps.cons ?_ ?_
      · intro a' w' hX hK
        rw [ring_agree2 0 0 _ hP rfl hK]
        rw [run_pair rfl rfl rfl]
        exact ⟨hX, World.grownBy.refl _ _, 0, 0, rfl, fun h => absurd h (by decide), fun h => absurd h (by decide)⟩
      refine Steps.cons ?_ ?_
      · intro a' w' hX hK
        rw [ring_agree2 0 0 _ hP rfl hK]
        rw [run_row8 rfl rfl rfl rfl rfl rfl rfl rfl rfl]
        exact ⟨hX.alloc _, RM.alloc A w' _, 0, w'.heap.size, rfl, fun h => absurd h (by decide), fun _ => ⟨heap_alloc_new _ _, fun e => by have := hX.ring.rowA.lt; omega, hX.below.size⟩⟩
      refine Steps.cons ?_ ?_
      · intro a' w' hX hK
        exact last_step rfl hK hX
      exact Steps.nil

end Go.Proofs.YtgkiaonakiflbaaGreatDoor
