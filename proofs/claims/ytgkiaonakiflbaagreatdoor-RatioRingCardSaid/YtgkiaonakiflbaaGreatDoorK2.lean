/- K2: the texts Wide Carry Read Beyond Plus Times Est Div, joined. -/
import Derived.Test.YtgkiaonakiflbaaGreatDoorK1
import Derived.RegionTactic
import Derived.Deep.RegionHeld3
import Derived.Deep.RegionLaw
import Derived.Laws.CopyOwn
/- A struct of whole's 'wide' in memory, and the numbers that its words are. -/
namespace Go.Proofs.YtgkiaonakiflbaaGreatDoor
open Go.RowKit

/-- Block p holds a 'wide': its sign, its count of words, its words. -/
def Wide (w : World) (p : Nat) (less : Bool) (n : Int) (f : Nat → Int) : Prop :=
  ∃ cs : Array Value, w.heap[p]? = some (.cells cs 136 (0, 0)) ∧ cs.size = 234 ∧ cs[0]? = some (.bool less) ∧ cs[1]? = some (.int .i64 n) ∧ ∀ i, i < 232 → cs[2 + i]? = some (.int .i64 (f i))

section
variable {w w' : World} {p : Nat} {less : Bool} {n : Int} {f : Nat → Int}
theorem Wide.lt (h : Wide w p less n f) : p < w.heap.size := by
  obtain ⟨cs, hb, _⟩ := h
  rcases Nat.lt_or_ge p w.heap.size with hl | hl
  · exact hl
  · rw [Array.getElem?_eq_none hl] at hb; cases hb
theorem Wide.c0 (h : Wide w p less n f) : w.cell? ⟨p, 0, none⟩ = some (.bool less) := by
  obtain ⟨cs, hb, _, h0, _⟩ := h
  rw [cell_of_row w p 0 cs _ _ hb]; exact h0
theorem Wide.c1 (h : Wide w p less n f) : w.cell? ⟨p, 1, none⟩ = some (.int .i64 n) := by
  obtain ⟨cs, hb, _, _, h1, _⟩ := h
  rw [cell_of_row w p 1 cs _ _ hb]; exact h1
theorem Wide.cw (h : Wide w p less n f) (i : Nat) (hi : i < 232) : w.cell? ⟨p, 2 + i, none⟩ = some (.int .i64 (f i)) := by
  obtain ⟨cs, hb, _, _, _, hw⟩ := h
  rw [cell_of_row w p (2 + i) cs _ _ hb]; exact hw i hi
theorem Wide.frozen (h : Wide w p less n f) (i : Nat) : w.frozen? ⟨p, i, none⟩ = false := by
  obtain ⟨cs, hb, _⟩ := h
  exact frozen_of_row w p i cs _ hb
theorem Wide.keep (h : Wide w p less n f) (hk : w'.heap[p]? = w.heap[p]?) : Wide w' p less n f := by
  obtain ⟨cs, hb, r⟩ := h
  exact ⟨cs, hk.trans hb, r⟩
theorem Wide.below {B : Nat} (h : Wide w p less n f) (hb : Below B w w') (hp : p < B) : Wide w' p less n f := h.keep (hb.block p hp)
theorem Wide.grown {g : Nat} (h : Wide w p less n f) (hb : w.grownBy w' (some g)) (hp : p ≠ g) : Wide w' p less n f := h.keep (hb.block p h.lt (fun e => hp (by injection e)))
theorem Wide.drewN (h : Wide w p less n f) (k : Nat) : Wide (w.drewN k) p less n f := h
theorem Wide.drew (h : Wide w p less n f) : Wide w.drew p less n f := h
theorem Wide.alloc (h : Wide w p less n f) (o : Obj) : Wide (w.alloc o) p less n f := h.keep (Below.heap_alloc w o p h.lt)
theorem Wide.setOther (h : Wide w p less n f) {a : Addr} (ha : p ≠ a.block) (u : Value) : Wide (w.setCell a u) p less n f := h.keep (Below.heap_setCell w a u p ha)
theorem Wide.set0 (h : Wide w p less n f) (l : Bool) : Wide (w.setCell ⟨p, 0, none⟩ (.bool l)) p l n f := by
  obtain ⟨cs, hb, hs, h0, h1, hw⟩ := h
  refine ⟨cs.setIfInBounds 0 (.bool l), heap_setCell_same w p 0 cs _ _ hb, by simpa using hs, ?_, ?_, ?_⟩
  · rw [Array.getElem?_setIfInBounds, if_pos rfl, if_pos (by omega)]
  · rw [Array.getElem?_setIfInBounds, if_neg (by omega)]; exact h1
  · intro i hi
    rw [Array.getElem?_setIfInBounds, if_neg (by omega)]; exact hw i hi
theorem Wide.set1 (h : Wide w p less n f) (m : Int) : Wide (w.setCell ⟨p, 1, none⟩ (.int .i64 m)) p less m f := by
  obtain ⟨cs, hb, hs, h0, h1, hw⟩ := h
  refine ⟨cs.setIfInBounds 1 (.int .i64 m), heap_setCell_same w p 1 cs _ _ hb, by simpa using hs, ?_, ?_, ?_⟩
  · rw [Array.getElem?_setIfInBounds, if_neg (by omega)]; exact h0
  · rw [Array.getElem?_setIfInBounds, if_pos rfl, if_pos (by omega)]
  · intro i hi
    rw [Array.getElem?_setIfInBounds, if_neg (by omega)]; exact hw i hi
theorem Wide.setw (h : Wide w p less n f) (j : Nat) (hj : j < 232) (v : Int) : Wide (w.setCell ⟨p, 2 + j, none⟩ (.int .i64 v)) p less n (upd f j v) := by
  obtain ⟨cs, hb, hs, h0, h1, hw⟩ := h
  refine ⟨cs.setIfInBounds (2 + j) (.int .i64 v), heap_setCell_same w p (2 + j) cs _ _ hb, by simpa using hs, ?_, ?_, ?_⟩
  · rw [Array.getElem?_setIfInBounds, if_neg (by omega)]; exact h0
  · rw [Array.getElem?_setIfInBounds, if_neg (by omega)]; exact h1
  · intro i hi
    rw [Array.getElem?_setIfInBounds]
    by_cases e : i = j
    · subst e; rw [if_pos rfl, if_pos (by omega), upd_same]
    · rw [if_neg (by omega), upd_other f j v e]; exact hw i hi
end

/-- The count of words, read off the world. -/
def nOf (p : Nat) (w : World) : Nat := match w.cell? ⟨p, 1, none⟩ with | some (.int _ n) => n.toNat | _ => 0
theorem Wide.nOf {w : World} {p : Nat} {less : Bool} {n : Int} {f : Nat → Int} (h : Wide w p less n f) : nOf p w = n.toNat := by
  unfold Go.Proofs.YtgkiaonakiflbaaGreatDoor.nOf; rw [h.c1]

section
variable {a w : World}
theorem only_refl (w : World) (row : Option Nat) : w.grownBy w row := World.grownBy.refl w row
theorem only_drewN {row : Option Nat} (h : a.grownBy w row) (n : Nat) : a.grownBy (w.drewN n) row := ⟨h.os, h.tape, h.output, h.size, h.block⟩
theorem only_drew {row : Option Nat} (h : a.grownBy w row) : a.grownBy w.drew row := ⟨h.os, h.tape, h.output, h.size, h.block⟩
theorem only_alloc {row : Option Nat} (h : a.grownBy w row) (o : Obj) : a.grownBy (w.alloc o) row :=
  ⟨h.os, h.tape, h.output, Nat.le_trans h.size (by simp), fun i hi hne => (Below.heap_alloc w o i (Nat.lt_of_lt_of_le hi h.size)).trans (h.block i hi hne)⟩
theorem only_set {g : Nat} (h : a.grownBy w (some g)) (i : Nat) (u : Value) : a.grownBy (w.setCell ⟨g, i, none⟩ u) (some g) :=
  ⟨h.os, h.tape, h.output, by simpa [World.setCell] using h.size, fun k hk hne => (Below.heap_setCell w ⟨g, i, none⟩ u k (fun e => hne (by rw [e]))).trans (h.block k hk hne)⟩
theorem only_setNew {row : Option Nat} (h : a.grownBy w row) {q : Addr} (hq : a.heap.size ≤ q.block) (u : Value) : a.grownBy (w.setCell q u) row :=
  ⟨h.os, h.tape, h.output, by simpa [World.setCell] using h.size, fun k hk hne => (Below.heap_setCell w q u k (by omega)).trans (h.block k hk hne)⟩
theorem only_trans {b : World} {row : Option Nat} (h : a.grownBy b row) (k : b.grownBy w row) : a.grownBy w row :=
  ⟨k.os.trans h.os, k.tape.trans h.tape, k.output.trans h.output, Nat.le_trans h.size k.size, fun i hi hne => (k.block i (Nat.lt_of_lt_of_le hi h.size) hne).trans (h.block i hi hne)⟩
theorem only_below {b : World} {row : Option Nat} (h : a.grownBy b row) (k : Below b.heap.size b w) : a.grownBy w row :=
  ⟨k.os.trans h.os, k.tape.trans h.tape, k.output.trans h.output, Nat.le_trans h.size k.size, fun i hi hne => (k.block i (Nat.lt_of_lt_of_le hi h.size)).trans (h.block i hi hne)⟩
/-- What turns a new block alone turns nothing that was there. -/
theorem only_new {b : World} {B g : Nat} (h : Below B a b) (k : b.grownBy w (some g)) (hB : B ≤ b.heap.size) (hg : B ≤ g) : Below B a w :=
  h.grown k hB (fun q e => by injection e with e; omega)
theorem Env.only {b : World} {g : Nat} (h : Env a) (k : a.grownBy b (some g)) (hg : 8 ≤ g) : Env b := by
  refine ⟨?_, ?_⟩
  · have ht := h.tab
    have hlt : 1 < a.heap.size := block_lt_of_cell (ht.cell gTab 0 (by decide))
    unfold Lib.TabIs World.var? at *
    rw [gTab] at *
    simp only [Option.bind_some] at ht ⊢
    rw [k.block _ hlt (by intro e; injection e with e; omega)]
    exact ht
  · obtain ⟨m, hm⟩ := h.mx
    have hlt : 0 < a.heap.size := block_lt_of_cell hm
    exact ⟨m, by
      have e := World.cell?_of_block (w := a) (a := ⟨0, 0, none⟩) (k.block 0 hlt (by intro e; injection e with e; omega))
      rw [e]; exact hm⟩
end

/-- trimmed: words of 0 at the end are left out. -/
theorem wide_trimmed (p : Nat) (less : Bool) (n : Nat) (f : Nat → Int) (w : World) (hn : n ≤ 232) (hw : Wide w p less n f) :
    Calls Tryz.prog 130 #[.pointer (some ⟨p, 0, none⟩)] w fun e w' =>
      e = .returned (.pointer (some ⟨p, 0, none⟩)) ∧ w.grownBy w' (some p) ∧ ∃ m : Nat, m ≤ n ∧ Wide w' p less m f ∧ (∀ i, m ≤ i → i < n → f i = 0) ∧ (0 < m → f (m - 1) ≠ 0) := by
  go_enter Tryz.func130, Tryz.ntmps130
  go_wp2
  go_loopw [] (fun wr => ∃ m : Nat, m ≤ n ∧ Wide wr p less m f ∧ (∀ i, m ≤ i → i < n → f i = 0) ∧ w.grownBy wr (some p)) (fun wr => nOf p wr)
  case atStart => exact ⟨n, Nat.le_refl _, hw, fun i h1 h2 => absurd h1 (by omega), only_refl _ _⟩
  case round =>
    obtain ⟨m, hm, hwr, hz, hg⟩ := hrel
    have h1 := hwr.c1
    have hF1 := hwr.frozen 1
    cases m with
    | zero =>
      have g1 : decide (0 < (0 : Int)) = false := by decide
      go_wp2_with fail
      go_quiet (fail)
      go_wp2
      go_ret
      exact ⟨rfl, only_drewN hg _, 0, by omega, hwr, hz, fun h => absurd h (by omega)⟩
    | succ j =>
      have hc := hwr.cw j (by omega)
      have g1 : decide (0 < ((j + 1 : Nat) : Int)) = true := by simp
      by_cases hf : f j = 0
      · have g2 : (f j == 0) = true := by simp [hf]
        have Hf := Lib.hid hf; clear hf
        go_wp2_with fail
        go_quiet (fail)
        go_wp2
        go_roundw
        case rel => exact ⟨j, by omega, (hwr.drewN _).set1 _, fun i h1 h2 => by
          by_cases e : i = j
          · rw [e]; exact Hf.out
          · exact hz i (by omega) h2, only_set (only_drewN hg _) _ _⟩
        case measure =>
          rw [((hwr.drewN _).set1 _).nOf, hwr.nOf]; omega
      · have g2 : (f j == 0) = false := by simp [hf]
        go_wp2_with fail
        go_quiet (fail)
        go_wp2
        go_ret
        exact ⟨rfl, only_drewN hg _, j + 1, by omega, hwr, hz, fun _ => hf⟩

end Go.Proofs.YtgkiaonakiflbaaGreatDoor

/- The contract of (*wide).carry. -/
namespace Go.Proofs.YtgkiaonakiflbaaGreatDoor
open Go.RowKit

/-- Block p holds the number v, with a sign. -/
def Big (w : World) (p : Nat) (less : Bool) (v : Int) : Prop := ∃ (n : Nat) (f : Nat → Int), Wide w p less n f ∧ Norm n f ∧ wsum f n = v

theorem Big.lt {w : World} {p : Nat} {less : Bool} {v : Int} (h : Big w p less v) : p < w.heap.size := by
  obtain ⟨n, f, h, _⟩ := h; exact h.lt
theorem Big.keep {w w' : World} {p : Nat} {less : Bool} {v : Int} (h : Big w p less v) (hk : w'.heap[p]? = w.heap[p]?) : Big w' p less v := by
  obtain ⟨n, f, h, r⟩ := h; exact ⟨n, f, h.keep hk, r⟩
theorem Big.below {w w' : World} {B p : Nat} {less : Bool} {v : Int} (h : Big w p less v) (hb : Below B w w') (hp : p < B) : Big w' p less v := h.keep (hb.block p hp)
theorem Big.belowAll {w w' : World} {p : Nat} {less : Bool} {v : Int} (h : Big w p less v) (hb : Below w.heap.size w w') : Big w' p less v := h.keep (hb.block p h.lt)
theorem Big.grown {w w' : World} {g p : Nat} {less : Bool} {v : Int} (h : Big w p less v) (hb : w.grownBy w' (some g)) (hp : p ≠ g) : Big w' p less v := h.keep (hb.block p h.lt (fun e => hp (by injection e)))
theorem Big.nonneg {w : World} {p : Nat} {less : Bool} {v : Int} (h : Big w p less v) : 0 ≤ v := by
  obtain ⟨n, f, _, hn, rfl⟩ := h; exact hn.nonneg
theorem Big.bound {w : World} {p : Nat} {less : Bool} {v : Int} (h : Big w p less v) : v < PB 232 := by
  obtain ⟨n, f, _, hn, rfl⟩ := h
  have := hn.lt
  have := PB_le hn.le
  omega

/-- What carry leaves. -/
def Carried (p : Nat) (less : Bool) (v : Int) (w : World) (e : Ending) (w' : World) : Prop := e = .returned (.tuple #[]) ∧ w.grownBy w' (some p) ∧ Big w' p less v

theorem ret_num {a b : Int} (h : a = b) : Value.int .i64 a = .int .i64 b := by rw [h]

theorem carry_rel {wr : World} {p k up mm : Nat} {lp : Bool} {g : Nat → Int} (h : Wide wr p lp mm g) (hk : up + k < 232) {v v' : Int} (hv : v' = v) :
    Wide ((wr.setCell ⟨p, 2 + (k + up), none⟩ (.int .i64 v')).setCell ⟨p, 1, none⟩ (.int .i64 (max (mm : Int) ((k : Int) + (up : Int) + 1)))) p lp ((max mm (up + k + 1) : Nat) : Int) (upd g (up + k) v) := by
  subst hv
  have h1 := (h.setw (k + up) (by omega) v').set1 (max (mm : Int) ((k : Int) + (up : Int) + 1))
  have e : ((max mm (up + k + 1) : Nat) : Int) = max (mm : Int) ((k : Int) + (up : Int) + 1) := by omega
  rw [e, Nat.add_comm up k]
  exact h1

theorem carry_other {wr : World} {p q k up : Nat} {lq : Bool} {n : Int} {y : Nat → Int} (h : Wide wr q lq n y) (hqp : q ≠ p) {u v : Value} :
    Wide ((wr.setCell ⟨p, 2 + (k + up), none⟩ u).setCell ⟨p, 1, none⟩ v) q lq n y :=
  (h.setOther (a := ⟨p, 2 + (k + up), none⟩) hqp u).setOther (a := ⟨p, 1, none⟩) hqp v

set_option maxHeartbeats 1000000 in
theorem wide_carry (p q : Nat) (hpq : p ≠ q) (lp lq : Bool) (m n : Nat) (f y : Nat → Int) (F : Int) (up : Nat) (w : World) (hf : Norm m f) (hy : Norm n y) (hp : Wide w p lp m f) (hq : Wide w q lq n y)
    (hF0 : -999999999 ≤ F) (hF1 : F ≤ 999999999) (hup : up + n ≤ 232) (h0 : 0 ≤ wsum f m + F * wsum y n * PB up) (h1 : wsum f m + F * wsum y n * PB up < PB 232) :
    Calls Tryz.prog 131 #[.pointer (some ⟨p, 0, none⟩), .pointer (some ⟨q, 0, none⟩), .int .i64 F, .int .i64 up] w (Carried p lp (wsum f m + F * wsum y n * PB up) w) := by
  have hqp : q ≠ p := fun e => hpq e.symm
  have hn232 := hy.le
  go_enter Tryz.func131, Tryz.ntmps131
  go_wp2_with fail
  go_loopw [8, 9] (fun r i wr => ∃ (k : Nat) (rr : Int) (g : Nat → Int) (mm : Nat), i = .int .i64 k ∧ r = .int .i64 rr ∧ Wide wr p lp mm g ∧ Wide wr q lq n y ∧ Carry g mm rr k up F (wsum f m) (wsum y n) y n ∧ w.grownBy wr (some p)) (fun _ i _ => 300 - (intOf i).toNat)
  case atStart => exact ⟨0, 0, f, m, rfl, rfl, hp, hq, Carry.start hf up F (wsum y n) y n, only_refl _ _⟩
  case round =>
    obtain ⟨k, rr, g, mm, rfl, rfl, hwp, hwq, hc, hg⟩ := hrel
    have lo := hc.lo
    have hi := hc.hi
    have c1 := hwp.c1
    have d1 := hwq.c1
    have fr : ∀ i, wr.frozen? ⟨p, i, none⟩ = false := hwp.frozen
    by_cases hk : k < n
    · have hroom := hc.room rfl hup h0 h1 (.inl hk)
      have g1 : decide ((k : Int) < (n : Int)) = true := by simpa using hk
      have g2 : decide (k < n) = true := by simpa using hk
      obtain ⟨a, ha⟩ : ∃ a, a = g (k + up) := ⟨_, rfl⟩
      obtain ⟨b, hb⟩ : ∃ b, b = y k := ⟨_, rfl⟩
      have ca : wr.cell? ⟨p, 2 + (k + up), none⟩ = some (.int .i64 a) := by rw [ha]; exact hwp.cw _ (by omega)
      have cb : wr.cell? ⟨q, 2 + k, none⟩ = some (.int .i64 b) := by rw [hb]; exact hwq.cw _ (by omega)
      have ba : 0 ≤ a ∧ a < 1000000000 := by rw [ha]; exact hc.inb _ (by omega)
      have bb : 0 ≤ b ∧ b < 1000000000 := by rw [hb]; exact hy.inb _ (by omega)
      obtain ⟨ba0, ba1⟩ := ba
      obtain ⟨bb0, bb1⟩ := bb
      obtain ⟨pb0, pb1⟩ := mul_bound hF0 hF1 bb0 bb1
      have Ha := Lib.hid ha; have Hb := Lib.hid hb; clear ha hb
      obtain ⟨t0, t1, t2, t3⟩ := tdiv_facts (s := a + rr + F * b) (by omega) (by omega)
      have hst : Carry (upd g (up + k) ((a + rr + F * b) % 1000000000)) (max mm (up + k + 1)) ((a + rr + F * b) / 1000000000) (k + 1) up F (wsum f m) (wsum y n) y n := by
        have ea : g (up + k) = a := by rw [Ha.out, Nat.add_comm]
        refine hc.step hroom (s := a + rr + F * b) (by rw [ea]; omega) (by rw [ea]; omega) ?_
        rw [ea, min_step, if_pos hk, ← Hb.out, PB_add]
        rw [show a + rr + F * b - a - rr = F * b by omega]
        grind
      go_wp2_with fail
      · obtain ⟨e1, e2⟩ := carry_fix (s := a + rr + F * b) ‹_›
        go_roundw
        case rel => exact ⟨k + 1, _, _, _, by go_num, ret_num e2, carry_rel hwp hroom e1, carry_other hwq hqp, hst, only_set (only_set hg _ _) _ _⟩
        case measure => simp [intOf]; omega
      · obtain ⟨e1, e2⟩ := carry_keep (s := a + rr + F * b) (by omega)
        go_roundw
        case rel => exact ⟨k + 1, _, _, _, by go_num, ret_num e2, carry_rel hwp hroom e1, carry_other hwq hqp, hst, only_set (only_set hg _ _) _ _⟩
        case measure => simp [intOf]; omega
    · by_cases hr : rr = 0
      · have g1 : decide ((k : Int) < (n : Int)) = false := by simpa using hk
        have g2 : decide (k < n) = false := by simpa using hk
        have g3 : (rr != 0) = false := by simp [hr]
        have hend : wsum g 232 = wsum f m + F * wsum y n * PB up := by
          rw [hr] at hc
          exact hc.end_ (by omega) rfl
        have hmm := hc.mle
        have Hr := Lib.hid hr; have He := Lib.hid hend; clear hr hend
        go_wp2_with (go_at_call 130; refine (wide_trimmed p lp mm g _ hmm hwp).mono ?_; rintro e w' ⟨rfl, hg2, hm2⟩)
        go_end0
        obtain ⟨j, hj, hwj, hzj, htj⟩ := hm2
        have hN := norm_trim hc.inb hmm hc.zero hj hzj htj
        exact ⟨rfl, only_trans hg hg2, j, g, hwj, hN, by rw [← hN.sum]; exact He.out⟩
      · have hroom := hc.room rfl hup h0 h1 (.inr hr)
        have g1 : decide ((k : Int) < (n : Int)) = false := by simpa using hk
        have g2 : decide (k < n) = false := by simpa using hk
        have g3 : (rr != 0) = true := by simp [hr]
        clear hr
        obtain ⟨a, ha⟩ : ∃ a, a = g (k + up) := ⟨_, rfl⟩
        have ca : wr.cell? ⟨p, 2 + (k + up), none⟩ = some (.int .i64 a) := by rw [ha]; exact hwp.cw _ (by omega)
        have ba : 0 ≤ a ∧ a < 1000000000 := by rw [ha]; exact hc.inb _ (by omega)
        obtain ⟨ba0, ba1⟩ := ba
        have Ha := Lib.hid ha; clear ha
        obtain ⟨t0, t1, t2, t3⟩ := tdiv_facts (s := a + rr) (by omega) (by omega)
        have hst : Carry (upd g (up + k) ((a + rr) % 1000000000)) (max mm (up + k + 1)) ((a + rr) / 1000000000) (k + 1) up F (wsum f m) (wsum y n) y n := by
          have ea : g (up + k) = a := by rw [Ha.out, Nat.add_comm]
          refine hc.step hroom (s := a + rr) (by rw [ea]; omega) (by rw [ea]; omega) ?_
          rw [ea, min_step, if_neg hk]
          rw [show a + rr - a - rr = 0 by omega]
          simp
        go_wp2_with fail
        · obtain ⟨e1, e2⟩ := carry_fix (s := a + rr) ‹_›
          go_roundw
          case rel => exact ⟨k + 1, _, _, _, by go_num, ret_num e2, carry_rel hwp hroom e1, carry_other hwq hqp, hst, only_set (only_set hg _ _) _ _⟩
          case measure => simp [intOf]; omega
        · obtain ⟨e1, e2⟩ := carry_keep (s := a + rr) (by omega)
          go_roundw
          case rel => exact ⟨k + 1, _, _, _, by go_num, ret_num e2, carry_rel hwp hroom e1, carry_other hwq hqp, hst, only_set (only_set hg _ _) _ _⟩
          case measure => simp [intOf]; omega

end Go.Proofs.YtgkiaonakiflbaaGreatDoor

/- The contract of whole.read. -/
namespace Go.Proofs.YtgkiaonakiflbaaGreatDoor
open Go.RowKit

/-- The cells of a new 'wide'. -/
def wc0 : Array Value := #[.bool false, .int .i64 0] ++ Array.replicate 232 (.int .i64 0)
theorem zeroCells_wide : Tryz.zeroCells136 = wc0 := by kernel_rfl

theorem wc0_size : wc0.size = 234 := by simp [wc0]
theorem wc0_word (i : Nat) (hi : i < 232) : wc0[2 + i]? = some (.int .i64 0) := by
  unfold wc0
  rw [Array.getElem?_append, if_neg (by simp)]
  simp [hi]

theorem wide_new (l : Bool) (w : World) : Wide (w.alloc (.cells (Tryz.zeroCells136.setIfInBounds 0 (.bool l)) 136)) w.heap.size l 0 (fun _ => 0) := by
  rw [zeroCells_wide]
  refine ⟨wc0.setIfInBounds 0 (.bool l), heap_alloc_new w _, by simpa using wc0_size, ?_, ?_, fun i hi => ?_⟩
  · rw [Array.getElem?_setIfInBounds, if_pos rfl, if_pos (by rw [wc0_size]; omega)]
  · rw [Array.getElem?_setIfInBounds, if_neg (by omega)]; simp [wc0]
  · rw [Array.getElem?_setIfInBounds, if_neg (by omega)]; exact wc0_word i hi

theorem wide_new0 (w : World) : Wide (w.alloc (.cells Tryz.zeroCells136 136)) w.heap.size false 0 (fun _ => 0) := by
  rw [zeroCells_wide]
  exact ⟨wc0, heap_alloc_new w _, wc0_size, by simp [wc0], by simp [wc0], fun i hi => wc0_word i hi⟩

theorem norm_zero : Norm 0 (fun _ => 0) := ⟨by omega, fun _ _ => by omega, fun _ _ _ => rfl, fun h => absurd h (by omega)⟩
theorem Wide.big0 {w : World} {p : Nat} {l : Bool} (h : Wide w p l 0 (fun _ => 0)) : Big w p l 0 := ⟨0, fun _ => 0, h, norm_zero, rfl⟩

theorem atoi_digits (a : ByteArray) (w : World) (hd : a.toList.all isDig = true) (hne : a.toList ≠ []) (hs : a.size ≤ 18) :
    Calls Tryz.prog 129 #[.string a] w fun e w' => e = .returned (.tuple #[.int .i64 (dval a.toList), .nilIface]) ∧ Below w.heap.size w w' := by
  have hall : ∀ c ∈ a.toList, isDig c = true := by rw [List.all_eq_true] at hd; exact hd
  have he : Lib.atoi a.toList = some (dval a.toList : Int) := by
    have hn : Lib.decNat a.toList = some (dval a.toList) := by
      unfold Lib.decNat
      rw [if_neg (by simp [hne]), decFrom_digits _ _ hall]; rfl
    generalize a.toList = l at *
    cases l with
    | nil => exact absurd rfl hne
    | cons c t =>
      have hc := (isDig_iff c).1 (hall c (by simp))
      have h45 : (45 : UInt8).toNat = 45 := rfl
      have h43 : (43 : UInt8).toNat = 43 := rfl
      have e1 : ¬ (c == 45) = true := by
        rw [beq_iff_eq]; intro e; subst e; omega
      have e2 : ¬ (c == 43) = true := by
        rw [beq_iff_eq]; intro e; subst e; omega
      show (if (c == 45) = true then (Lib.decNat t).map fun (m : Nat) => -(m : Int) else if (c == 43) = true then (Lib.decNat t).map fun (m : Nat) => (m : Int) else (Lib.decNat (c :: t)).map fun (m : Nat) => (m : Int)) = _
      rw [if_neg e1, if_neg e2, hn]; rfl
  refine (Tryz.strconv_Atoi _ _ hs (by rw [← ByteArray.toList_eq]; exact he) _).mono ?_
  rintro e w' ⟨rfl, t, rfl⟩
  exact ⟨rfl, Lib.bytesWorld_below _ _ _⟩

/-- What is still to be read behind j words. -/
structure Rest (s : Bytes) (m j L : Nat) : Prop where
  dig : s.all isDig = true
  val : dval s = m / 10 ^ (9 * j)
  len : s.length = L - 9 * j

theorem Rest.low {s : Bytes} {m j L : Nat} (h : Rest s m j L) : (dval (s.drop (s.length - 9)) : Int) = dw m j := by
  unfold dw
  have hd : ∀ c ∈ s.drop (s.length - 9), isDig c = true := fun c hc => List.all_eq_true.1 h.dig c (List.mem_of_mem_drop hc)
  have hlt := dval_lt _ hd
  have e : dval s = dval (s.take (s.length - 9)) * 10 ^ (s.drop (s.length - 9)).length + dval (s.drop (s.length - 9)) := by
    rw [← dval_append, List.take_append_drop]
  rw [List.length_drop] at e hlt
  rw [← h.val]
  congr 1
  rcases Nat.lt_or_ge s.length 9 with hl | hl
  · rw [show s.length - 9 = 0 by omega] at *
    rw [List.take_zero, dval_nil] at e
    rw [List.drop_zero] at *
    have : (10 : Nat) ^ (s.length - 0) ≤ 10 ^ 9 := Nat.pow_le_pow_right (by omega) (by omega)
    rw [show (10 : Nat) ^ 9 = 1000000000 by decide] at this
    rw [Nat.mod_eq_of_lt (by omega)]
  · rw [show s.length - (s.length - 9) = 9 by omega, show (10 : Nat) ^ 9 = 1000000000 by decide] at *
    omega
theorem Rest.next {s : Bytes} {m j L : Nat} (h : Rest s m j L) : Rest (s.take (s.length - 9)) m (j + 1) L := by
  have hd : ∀ c ∈ s.drop (s.length - 9), isDig c = true := fun c hc => List.all_eq_true.1 h.dig c (List.mem_of_mem_drop hc)
  have hlt := dval_lt _ hd
  have e : dval s = dval (s.take (s.length - 9)) * 10 ^ (s.drop (s.length - 9)).length + dval (s.drop (s.length - 9)) := by
    rw [← dval_append, List.take_append_drop]
  rw [List.length_drop] at e hlt
  refine ⟨?_, ?_, ?_⟩
  · rw [List.all_eq_true]
    exact fun c hc => List.all_eq_true.1 h.dig c (List.mem_of_mem_take hc)
  · rw [show 9 * (j + 1) = 9 * j + 9 by omega, Nat.pow_add, ← Nat.div_div_eq_div_mul, ← h.val, show (10 : Nat) ^ 9 = 1000000000 by decide]
    rcases Nat.lt_or_ge s.length 9 with hl | hl
    · rw [show s.length - 9 = 0 by omega] at *
      rw [List.take_zero, dval_nil] at e ⊢
      rw [List.drop_zero] at *
      have : (10 : Nat) ^ (s.length - 0) ≤ 10 ^ 9 := Nat.pow_le_pow_right (by omega) (by omega)
      rw [show (10 : Nat) ^ 9 = 1000000000 by decide] at this
      omega
    · rw [show s.length - (s.length - 9) = 9 by omega, show (10 : Nat) ^ 9 = 1000000000 by decide] at *
      omega
  · rw [List.length_take, h.len]; omega

theorem Rest.start (m : Nat) : Rest (Lib.decDigits m) m 0 (Lib.nDigits m) :=
  ⟨by rw [List.all_eq_true]; exact decDigits_all m, by rw [dval_decDigits]; simp, by rw [Lib.decDigits_length]; omega⟩

theorem low_list (c : ByteArray) : (c.extract (max 0 ((c.size : Int) - 9)).toNat c.size).toList = c.toList.drop (c.toList.length - 9) := by
  rw [toList_extract, List.take_of_length_le (by rw [toList_length]; omega), toList_length]
  congr 1; omega
theorem high_list (c : ByteArray) : (c.extract 0 (max 0 ((c.size : Int) - 9)).toNat).toList = c.toList.take (c.toList.length - 9) := by
  rw [toList_extract, List.drop_zero, toList_length]
  congr 1; omega

theorem keep1 {w : World} {p j : Nat} {u v : Value} (h : w.cell? ⟨p, 1, none⟩ = some v) : (w.setCell ⟨p, 2 + j, none⟩ u).cell? ⟨p, 1, none⟩ = some v := by
  rw [World.cell?_setCell_other]
  · exact h
  · intro e; injection e with _ e; omega

def strLen : Value → Nat | .string s => s.size | _ => 0

/-- A pointer to a new number. -/
def NewBig (less : Bool) (v : Int) (w : World) (e : Ending) (w' : World) : Prop := ∃ p, e = .returned (.pointer (some ⟨p, 0, none⟩)) ∧ w.heap.size ≤ p ∧ Below w.heap.size w w' ∧ Big w' p less v

set_option maxRecDepth 100000 in
set_option maxHeartbeats 1000000 in
theorem whole_read (a : ByteArray) (z : Int) (w : World) (ha : IsI a z) (hz : wid z ≤ 1024) :
    Calls Tryz.prog 105 #[.string a] w (NewBig (decide (z < 0)) z.natAbs w) := by
  have hpos := ha.pos
  have hsz := ha.size_le
  have hneg : ∀ h : 0 < a.size, ((a[0].toNat : Int) == 45) = decide (z < 0) := by
    intro h
    by_cases e : (a[0].toNat : Int) = 45
    · have := ha.neg_of e; simp [e, this]
    · have h2 := ha.nonneg_of e
      have h3 : ¬ z < 0 := by omega
      simp [e, h3]
  have Hneg := Lib.hid hneg; clear hneg
  go_enter Tryz.func105, Tryz.ntmps105
  go_wp2_with fail
  refine (trimMinus _ _).mono ?_
  rintro e w' ⟨d, hd, rfl, rfl⟩
  have hW := wide_new ((a[0].toNat : Int) == 45) w
  have hB := (Below.refl w.heap.size w).alloc (Nat.le_refl _) (.cells (Tryz.zeroCells136.setIfInBounds 0 (.bool ((a[0].toNat : Int) == 45))) 136)
  generalize w.alloc (.cells (Tryz.zeroCells136.setIfInBounds 0 (.bool ((a[0].toNat : Int) == 45))) 136) = W1 at *
  rw [Hneg.out hpos] at *
  generalize decide (z < 0) = neg at *
  obtain ⟨p, hp⟩ : ∃ p, p = w.heap.size := ⟨_, rfl⟩
  rw [← hp] at hW hB ⊢
  have Hp := Lib.hid hp; clear hp
  have hd1 : Rest d.toList z.natAbs 0 (wid z) := by
    rw [(ha.body_is hd).out]; exact Rest.start _
  have hd2 : d.size ≤ 1024 := by
    have := (ha.body_is hd).size
    unfold wid at hz
    omega
  generalize z.natAbs = m at *
  go_wp2_with fail
  go_loopw [3] (fun s wr => ∃ (j : Nat) (c : ByteArray), s = .string c ∧ 9 * j ≤ wid z + 8 ∧ Rest c.toList m j (wid z) ∧ Wide wr p neg j (cutw m j) ∧ Below p w wr) (fun s _ => strLen s)
  case atStart => exact ⟨0, d, rfl, by omega, hd1, by rw [cutw_zero]; exact hW, hB⟩
  case round =>
    obtain ⟨j, c, rfl, h9, hr, hwr, hbr⟩ := hrel
    by_cases h0 : 0 < c.size
    · have hlen := hr.len
      rw [toList_length] at hlen
      have hj : j < 200 := by omega
      have hc : c.size ≤ 1024 := by omega
      clear hlen
      have c1 := hwr.c1
      have cj := hwr.cw j (by omega)
      have fj := hwr.frozen (2 + j)
      have f1 := hwr.frozen 1
      have k1 : (0 : Int) ≤ max 0 ((c.size : Int) - 9) := by omega
      have k2 : max 0 ((c.size : Int) - 9) ≤ (c.size : Int) := by omega
      have x1 : (c.extract (max 0 ((c.size : Int) - 9)).toNat c.size).toList.all isDig = true := by
        rw [low_list, List.all_eq_true]
        exact fun x hx => List.all_eq_true.1 hr.dig x (List.mem_of_mem_drop hx)
      have x2 : (c.extract (max 0 ((c.size : Int) - 9)).toNat c.size).toList ≠ [] := by
        rw [low_list]
        intro e
        have := congrArg List.length e
        rw [List.length_drop, toList_length] at this
        simp at this
        omega
      have x3 : (c.extract (max 0 ((c.size : Int) - 9)).toNat c.size).size ≤ 18 := by
        have := toList_length (c.extract (max 0 ((c.size : Int) - 9)).toNat c.size)
        rw [low_list, List.length_drop, toList_length] at this
        omega
      have x4 : (dval (c.extract (max 0 ((c.size : Int) - 9)).toNat c.size).toList : Int) = dw m j := by rw [low_list]; exact hr.low
      have h9' : 9 * (j + 1) ≤ wid z + 8 := by have := hr.len; rw [toList_length] at this; omega
      have j1 : (j : Int) < 232 := by omega
      have j2 : (0 : Int) ≤ (j : Int) := by omega
      have X1 := Lib.hid x1; have X2 := Lib.hid x2; have X4 := Lib.hid x4; clear x1 x2 x4
      go_wp2_with fail
      go_region_held3 (fun w' => w'.cell? ⟨p, 1, none⟩ = some (.int .i64 j)) (first | go_keep | exact keep1 (by assumption))
        (first | (go_at_call 129; refine (atoi_digits _ _ X1.out X2.out x3).mono ?_; rintro e w' ⟨rfl, hb9⟩; have y1 := (hb9.cell (p := ⟨p, 1, none⟩) hwr.lt).trans c1; have y2 := (hb9.cell (p := ⟨p, 2 + j, none⟩) hwr.lt).trans cj; have y3 := (hb9.frozen (p := ⟨p, 2 + j, none⟩) hwr.lt).trans fj))
      rw [X4.out]
      have hw9 : Wide w' p neg j (cutw m j) := hwr.drew.below hb9 hwr.lt
      have hw10 := hw9.setw j (by omega) (dw m j)
      rw [cutw_succ] at hw10
      have hB9 : Below p w w' := hbr.drew.trans (hb9.mono (by have := hwr.lt; simp; omega))
      have hB10 := hB9.setCell (p := ⟨p, 2 + j, none⟩) (Nat.le_refl _) (.int .i64 (dw m j))
      generalize w'.setCell ⟨p, 2 + j, none⟩ (.int .i64 (dw m j)) = W2 at *
      have e1 := hw10.c1
      have e2 := hw10.frozen 1
      go_wp2_with fail
      go_roundw
      case rel => exact ⟨j + 1, _, rfl, h9', by rw [high_list]; exact hr.next, by rw [show ((j + 1 : Nat) : Int) = (j : Int) + 1 by omega]; exact hw10.set1 _, hB10.setCell (p := ⟨p, 1, none⟩) (Nat.le_refl _) _⟩
      case measure =>
        have e := toList_length (c.extract 0 (max 0 ((c.size : Int) - 9)).toNat)
        rw [high_list, List.length_take, toList_length] at e
        show (c.extract 0 (max 0 ((c.size : Int) - 9)).toNat).size < c.size
        omega
    · have hz0 : c.toList = [] := by
        apply List.eq_nil_of_length_eq_zero
        rw [toList_length]; omega
      have hm : m < 10 ^ (9 * j) := by
        have hv := hr.val
        rw [hz0, dval_nil] at hv
        have hp : 0 < 10 ^ (9 * j) := Nat.pow_pos (by omega)
        exact (Nat.div_eq_zero_iff_lt hp).1 hv.symm
      have Hz := Lib.hid hz0; have Hm := Lib.hid hm; clear hz0 hm
      have hj : j ≤ 232 := by omega
      go_wp2_with (go_at_call 130; refine (wide_trimmed p neg j (cutw m j) _ hj hwr).mono ?_; rintro e w' ⟨rfl, hg2, hm2⟩)
      go_ret
      obtain ⟨k, hk, hwk, hzk, htk⟩ := hm2
      have hN : Norm k (cutw m j) := norm_trim (cutw_inb m j 232) hj (fun i h1 _ => cutw_tail m j i h1) hk hzk htk
      exact ⟨p, rfl, by rw [← Hp.out]; exact Nat.le_refl _, by rw [← Hp.out]; exact only_new hbr hg2 (by have := hwr.lt; omega) (Nat.le_refl _), k, cutw m j, hwk, hN, by rw [← hN.sum]; exact cutw_sum hj Hm.out⟩

end Go.Proofs.YtgkiaonakiflbaaGreatDoor

/- The contract of (*wide).beyond. -/
namespace Go.Proofs.YtgkiaonakiflbaaGreatDoor
open Go.RowKit

theorem wsum_top {f g : Nat → Int} {j n : Nat} (hf : InB f n) (hg : InB g n) (hj : j < n) (he : ∀ i, j < i → i < n → f i = g i) (h : f j < g j) : wsum f n < wsum g n := by
  induction n with
  | zero => omega
  | succ n ih =>
    rw [wsum_succ, wsum_succ]
    by_cases e : j = n
    · subst e
      have a1 := wsum_lt (hf.le (show j ≤ j + 1 by omega))
      have a2 := wsum_nonneg (hg.le (show j ≤ j + 1 by omega))
      have : (f j + 1) * PB j ≤ g j * PB j := Int.mul_le_mul_of_nonneg_right (by omega) (by have := PB_pos j; omega)
      rw [Int.add_mul] at this
      omega
    · have := ih (hf.le (by omega)) (hg.le (by omega)) (by omega) (fun i h1 h2 => he i h1 (by omega))
      rw [he n (by omega) (by omega)]
      omega

/-- What beyond answers: a number that is not negative exactly if X is not less than Y. -/
def BeyondR (X Y : Int) (w : World) (e : Ending) (w' : World) : Prop := ∃ (d : Int) (k : Nat), e = .returned (.int .i64 d) ∧ w' = w.drewN k ∧ (0 ≤ d ↔ Y ≤ X) ∧ -1000000000 ≤ d ∧ d ≤ 1000000000

set_option maxHeartbeats 1000000 in
theorem wide_beyond (p q : Nat) (lp lq : Bool) (m n : Nat) (f g : Nat → Int) (w : World) (hf : Norm m f) (hg : Norm n g) (hp : Wide w p lp m f) (hq : Wide w q lq n g) :
    Calls Tryz.prog 151 #[.pointer (some ⟨p, 0, none⟩), .pointer (some ⟨q, 0, none⟩)] w (BeyondR (wsum f m) (wsum g n) w) := by
  have c1 := hp.c1
  have d1 := hq.c1
  have hm := hf.le
  have hn := hg.le
  by_cases hmn : m = n
  · subst hmn
    have g1 : ((m : Int) != (m : Int)) = false := by simp
    go_enter Tryz.func151, Tryz.ntmps151
    go_wp2_with fail
    go_quiet (fail)
    go_wp2_with fail
    go_loopw [5] (fun i wr => ∃ k nq : Nat, k ≤ m ∧ i = .int .i64 ((k : Int) - 1) ∧ wr = w.drewN nq ∧ (∀ j, k ≤ j → j < m → f j = g j)) (fun i _ => (intOf i + 1).toNat)
    case atStart => exact ⟨m, _, Nat.le_refl _, rfl, rfl, fun j h1 h2 => absurd h1 (by omega)⟩
    case round =>
      obtain ⟨k, nq, hk, rfl, rfl, he⟩ := hrel
      cases k with
      | zero =>
        go_wp2_with fail
        go_ret
        refine ⟨0, nq, rfl, rfl, ?_, by omega, by omega⟩
        rw [wsum_congr (f := f) (g := g) (fun i hi => he i (by omega) hi)]
        simp
      | succ j =>
        obtain ⟨a, ha⟩ : ∃ a, a = f j := ⟨_, rfl⟩
        obtain ⟨b, hb⟩ : ∃ b, b = g j := ⟨_, rfl⟩
        have ca : w.cell? ⟨p, 2 + j, none⟩ = some (.int .i64 a) := by rw [ha]; exact hp.cw _ (by omega)
        have cb : w.cell? ⟨q, 2 + j, none⟩ = some (.int .i64 b) := by rw [hb]; exact hq.cw _ (by omega)
        obtain ⟨ba0, ba1⟩ : 0 ≤ a ∧ a < 1000000000 := by rw [ha]; exact hf.inb _ (by omega)
        obtain ⟨bb0, bb1⟩ : 0 ≤ b ∧ b < 1000000000 := by rw [hb]; exact hg.inb _ (by omega)
        have Ha := Lib.hid ha; have Hb := Lib.hid hb; clear ha hb
        by_cases hab : a = b
        · have g2 : (a != b) = false := by simp [hab]
          have Hab := Lib.hid hab; clear hab
          go_wp2_with fail
          go_quiet (fail)
          go_wp2_with fail
          go_roundw
          case rel => exact ⟨j, _, by omega, rfl, rfl, fun i h1 h2 => by
            by_cases e : i = j
            · rw [e, ← Ha.out, ← Hb.out]; exact Hab.out
            · exact he i (by omega) h2⟩
          case measure => simp [intOf]
        · have g2 : (a != b) = true := by simp [hab]
          go_wp2_with fail
          go_quiet (fail)
          go_wp2_with fail
          go_quiet (fail)
          go_wp2_with fail
          go_ret
          refine ⟨a - b, _, by rfl, by rw [World.drewN_drewN, World.drewN_drewN], ?_, by omega, by omega⟩
          have i1 := hf.inb.le hm
          have i2 := hg.inb.le hm
          rcases Int.lt_or_le a b with hl | hl
          · have := wsum_top (j := j) i1 i2 (by omega) (fun i h1 h2 => he i (by omega) h2) (by rw [← Ha.out, ← Hb.out]; exact hl)
            omega
          · have := wsum_top (j := j) i2 i1 (by omega) (fun i h1 h2 => (he i (by omega) h2).symm) (by rw [← Ha.out, ← Hb.out]; omega)
            omega
  · have g1 : ((m : Int) != (n : Int)) = true := by simp; omega
    go_enter Tryz.func151, Tryz.ntmps151
    go_wp2_with fail
    go_quiet (fail)
    go_wp2_with fail
    go_quiet (fail)
    go_wp2_with fail
    go_ret
    refine ⟨(m : Int) - (n : Int), _, by rfl, by rw [World.drewN_drewN], ?_, by omega, by omega⟩
    rcases Nat.lt_or_ge m n with hl | hl
    · have := hf.lt_of hg hl; omega
    · have := hg.lt_of hf (by omega); omega

/-- beyond, by numbers. -/
theorem big_beyond (p q : Nat) (lp lq : Bool) (X Y : Int) (w : World) (hp : Big w p lp X) (hq : Big w q lq Y) :
    Calls Tryz.prog 151 #[.pointer (some ⟨p, 0, none⟩), .pointer (some ⟨q, 0, none⟩)] w (BeyondR X Y w) := by
  obtain ⟨m, f, h1, h2, rfl⟩ := hp
  obtain ⟨n, g, h3, h4, rfl⟩ := hq
  exact wide_beyond p q lp lq m n f g w h2 h4 h1 h3

theorem Norm.le_of {n L : Nat} {f : Nat → Int} (h : Norm n f) (hv : wsum f n < PB L) : n ≤ L := by
  rcases Nat.lt_or_ge L n with hl | hl
  · have := h.ge (by omega)
    have := PB_le (show L ≤ n - 1 by omega)
    omega
  · exact hl

/-- carry, by numbers. -/
theorem big_carry (p q : Nat) (hpq : p ≠ q) (lp lq : Bool) (X Y F : Int) (up L : Nat) (w : World) (hp : Big w p lp X) (hq : Big w q lq Y)
    (hF0 : -999999999 ≤ F) (hF1 : F ≤ 999999999) (hY : Y < PB L) (hup : up + L ≤ 232) (h0 : 0 ≤ X + F * Y * PB up) (h1 : X + F * Y * PB up < PB 232) :
    Calls Tryz.prog 131 #[.pointer (some ⟨p, 0, none⟩), .pointer (some ⟨q, 0, none⟩), .int .i64 F, .int .i64 up] w (Carried p lp (X + F * Y * PB up) w) := by
  obtain ⟨m, f, a1, a2, rfl⟩ := hp
  obtain ⟨n, g, b1, b2, rfl⟩ := hq
  exact wide_carry p q hpq lp lq m n f g F up w a2 b2 a1 b1 hF0 hF1 (by have := b2.le_of hY; omega) h0 h1

theorem big_carry0 (p q : Nat) (hpq : p ≠ q) (lp lq : Bool) (X Y F : Int) (w : World) (hp : Big w p lp X) (hq : Big w q lq Y)
    (hF0 : -999999999 ≤ F) (hF1 : F ≤ 999999999) (h0 : 0 ≤ X + F * Y) (h1 : X + F * Y < PB 232) :
    Calls Tryz.prog 131 #[.pointer (some ⟨p, 0, none⟩), .pointer (some ⟨q, 0, none⟩), .int .i64 F, .int .i64 0] w (Carried p lp (X + F * Y) w) := by
  have h := big_carry p q hpq lp lq X Y F 0 232 w hp hq hF0 hF1 hq.bound (by omega) (by rw [PB_zero, Int.mul_one]; exact h0) (by rw [PB_zero, Int.mul_one]; exact h1)
  rw [PB_zero, Int.mul_one, Int.natCast_zero] at h
  exact h

end Go.Proofs.YtgkiaonakiflbaaGreatDoor

/- The contract of (*wide).plus. -/
namespace Go.Proofs.YtgkiaonakiflbaaGreatDoor
open Go.RowKit

/-- A number with a sign. -/
def sval (l : Bool) (v : Int) : Int := if l = true then -v else v
theorem sval_true (v : Int) : sval true v = -v := rfl
theorem sval_false (v : Int) : sval false v = v := rfl
theorem sval_abs (z : Int) : sval (decide (z < 0)) z.natAbs = z := by
  unfold sval
  by_cases h : z < 0
  · simp only [h, decide_true, if_true]; omega
  · simp only [h, decide_false, Bool.false_eq_true, if_false]; omega

/-- Block p holds an integer. -/
def BigZ (w : World) (p : Nat) (z : Int) : Prop := ∃ (l : Bool) (v : Int), Big w p l v ∧ sval l v = z
theorem BigZ.lt {w : World} {p : Nat} {z : Int} (h : BigZ w p z) : p < w.heap.size := by obtain ⟨l, v, h, _⟩ := h; exact h.lt
theorem BigZ.keep {w w' : World} {p : Nat} {z : Int} (h : BigZ w p z) (hk : w'.heap[p]? = w.heap[p]?) : BigZ w' p z := by
  obtain ⟨l, v, h, r⟩ := h; exact ⟨l, v, h.keep hk, r⟩
theorem BigZ.belowAll {w w' : World} {p : Nat} {z : Int} (h : BigZ w p z) (hb : Below w.heap.size w w') : BigZ w' p z := h.keep (hb.block p h.lt)
theorem BigZ.grown {w w' : World} {g p : Nat} {z : Int} (h : BigZ w p z) (hb : w.grownBy w' (some g)) (hp : p ≠ g) : BigZ w' p z := h.keep (hb.block p h.lt (fun e => hp (by injection e)))
theorem Big.z {w : World} {p : Nat} {l : Bool} {v : Int} (h : Big w p l v) : BigZ w p (sval l v) := ⟨l, v, h, rfl⟩
theorem Big.zabs {w : World} {p : Nat} {z : Int} (h : Big w p (decide (z < 0)) z.natAbs) : BigZ w p z := ⟨_, _, h, sval_abs z⟩

theorem wide_info : (Tryz.prog.info? 136).map (·.size) = some 234 := by kernel_rfl

theorem Wide.one {cs : Array Value} {less : Bool} {n : Int} {f : Nat → Int} (hs : cs.size = 234) (h0 : cs[0]? = some (.bool less)) (h1 : cs[1]? = some (.int .i64 n)) (hw : ∀ i, i < 232 → cs[2 + i]? = some (.int .i64 (f i))) :
    cs.all (·.oneCell') = true := by
  rw [Array.all_eq_true]
  intro i hi
  rcases Nat.lt_or_ge i 2 with h | h
  · rcases (show i = 0 ∨ i = 1 by omega) with rfl | rfl
    · rw [Array.getElem?_eq_getElem hi] at h0; injection h0 with h0; rw [h0]; rfl
    · rw [Array.getElem?_eq_getElem hi] at h1; injection h1 with h1; rw [h1]; rfl
  · have := hw (i - 2) (by omega)
    rw [show 2 + (i - 2) = i by omega, Array.getElem?_eq_getElem hi] at this
    injection this with this; rw [this]; rfl

/-- The cells of a number. -/
def Cells (cs : Array Value) (less : Bool) (v : Int) : Prop := ∃ (n : Nat) (f : Nat → Int), cs.size = 234 ∧ cs[0]? = some (.bool less) ∧ cs[1]? = some (.int .i64 (n : Int)) ∧ (∀ i, i < 232 → cs[2 + i]? = some (.int .i64 (f i))) ∧ Norm n f ∧ wsum f n = v
theorem Big.cells {w : World} {p : Nat} {less : Bool} {v : Int} (h : Big w p less v) : ∃ cs, w.heap[p]? = some (.cells cs 136 (0, 0)) ∧ Cells cs less v := by
  obtain ⟨n, f, ⟨cs, hb, hs, h0, h1, hw⟩, hn, hv⟩ := h
  exact ⟨cs, hb, n, f, hs, h0, h1, hw, hn, hv⟩
theorem Cells.big {w : World} {p : Nat} {less : Bool} {v : Int} {cs : Array Value} (h : Cells cs less v) (hb : w.heap[p]? = some (.cells cs 136 (0, 0))) : Big w p less v := by
  obtain ⟨n, f, hs, h0, h1, hw, hn, hv⟩ := h
  exact ⟨n, f, ⟨cs, hb, hs, h0, h1, hw⟩, hn, hv⟩
theorem Cells.size {less : Bool} {v : Int} {cs : Array Value} (h : Cells cs less v) : cs.size = 234 := by obtain ⟨n, f, hs, _⟩ := h; exact hs
theorem Cells.one {less : Bool} {v : Int} {cs : Array Value} (h : Cells cs less v) : cs.all (·.oneCell') = true := by
  obtain ⟨n, f, hs, h0, h1, hw, _⟩ := h; exact Wide.one hs h0 h1 hw
theorem Cells.info {less : Bool} {v : Int} {cs : Array Value} (h : Cells cs less v) : (Tryz.prog.info? 136).map (·.size) = some cs.size := by rw [h.size]; exact wide_info

theorem setRow_new (w : World) (o cs : Array Value) (T : TypeId) : ((w.alloc (.cells o T)).setRow w.heap.size cs).heap[w.heap.size]? = some (.cells cs T (0, 0)) :=
  setRow_heap _ _ _ _ _ _ (heap_alloc_new w _)

theorem Big.copied {w : World} {p : Nat} {l : Bool} {v : Int} {o cs : Array Value} {T : TypeId} (h : Big w p l v) : Big ((w.alloc (.cells o T)).setRow w.heap.size cs) p l v := by
  have := h.lt
  refine h.keep ?_
  rw [setRow_other _ _ _ _ (by omega)]
  exact Below.heap_alloc w _ p h.lt

theorem only_setRow {a w : World} {g : Nat} (h : a.grownBy w (some g)) (cs : Array Value) : a.grownBy (w.setRow g cs) (some g) :=
  ⟨h.os, h.tape, h.output, by simpa using h.size, fun k hk hne => (setRow_other w g k cs (fun e => hne (by rw [e]))).trans (h.block k hk hne)⟩

theorem copied_only {w w' : World} {p : Nat} {o cs : Array Value} {T : TypeId} (hg : ((w.alloc (.cells o T)).setRow w.heap.size cs).grownBy w' (some w.heap.size)) (cs2 : Array Value) : w.grownBy (w'.setRow p cs2) (some p) := by
  refine ⟨hg.os, hg.tape, hg.output, ?_, fun k hk hne => ?_⟩
  · have := hg.size
    rw [size_setRow] at *
    simp at this
    omega
  · rw [setRow_other _ _ _ _ (fun e => hne (by rw [e])), hg.block k (by rw [size_setRow]; simp; omega) (by intro e; injection e with e; omega), setRow_other _ _ _ _ (by omega)]
    exact Below.heap_alloc w _ k hk

/-- What plus leaves. -/
def Plussed (p : Nat) (z : Int) (w : World) (e : Ending) (w' : World) : Prop := e = .returned (.tuple #[]) ∧ w.grownBy w' (some p) ∧ BigZ w' p z

set_option maxRecDepth 100000 in
set_option maxHeartbeats 1000000 in
theorem wide_plus (p q : Nat) (hpq : p ≠ q) (lp lq : Bool) (X Y : Int) (L : Nat) (w : World) (_hL : L ≤ 232) (hp : Big w p lp X) (hq : Big w q lq Y) (_hX : X < PB L) (_hY : Y < PB L) (hXY : X + Y < PB 232) :
    Calls Tryz.prog 150 #[.pointer (some ⟨p, 0, none⟩), .pointer (some ⟨q, 0, none⟩)] w (Plussed p (sval lp X + sval lq Y) w) := by
  have hqp : q ≠ p := fun e => hpq e.symm
  have X0 := hp.nonneg
  have Y0 := hq.nonneg
  have c0 : w.cell? ⟨p, 0, none⟩ = some (.bool lp) := by obtain ⟨n, f, h, _⟩ := hp; exact h.c0
  have d0 : w.cell? ⟨q, 0, none⟩ = some (.bool lq) := by obtain ⟨n, f, h, _⟩ := hq; exact h.c0
  by_cases hl : lp = lq
  · have g1 : (lp == lq) = true := by simp [hl]
    have Hl := Lib.hid hl; clear hl
    go_enter Tryz.func150, Tryz.ntmps150
    go_wp2_with fail
    go_quiet (fail)
    go_wp2_with (go_at_call 131; refine (big_carry0 p q hpq lp lq X Y 1 _ (by exact hp) (by exact hq) (by omega) (by omega) (by omega) (by omega)).mono ?_; rintro e w' ⟨rfl, hg, hb⟩)
    refine bodyPost_ret (results_none rfl _ _ _) rfl ?_
    refine ⟨rfl, ⟨hg.os, hg.tape, hg.output, hg.size, hg.block⟩, lp, _, hb, ?_⟩
    rw [← Hl.out]; unfold sval; split <;> omega
  · have g1 : (lp == lq) = false := by simp [hl]
    by_cases hXY2 : Y ≤ X
    · go_enter Tryz.func150, Tryz.ntmps150
      go_wp2_with fail
      go_quiet (fail)
      go_wp2_with (first
        | (go_at_call 151; refine (big_beyond p q lp lq X Y _ (by exact hp) (by exact hq)).mono ?_; rintro e w' ⟨d, k, rfl, rfl, hd, hd1, hd2⟩; have g2 : 0 ≤ d := hd.2 hXY2; clear hd)
        | (go_at_call 131; refine (big_carry0 p q hpq lp lq X Y (-1) _ (by exact hp) (by exact hq) (by omega) (by omega) (by omega) (by omega)).mono ?_; rintro e w' ⟨rfl, hg, hb⟩))
      refine bodyPost_ret (results_none rfl _ _ _) rfl ?_
      refine ⟨rfl, ⟨hg.os, hg.tape, hg.output, hg.size, hg.block⟩, lp, _, hb, ?_⟩
      rcases lp <;> rcases lq <;> simp [sval] at * <;> omega
    · obtain ⟨cs, hcs, hC⟩ := hq.cells
      have hplt := hp.lt
      have hqlt := hq.lt
      go_enter Tryz.func150, Tryz.ntmps150
      go_wp2_with fail
      go_quiet (fail)
      go_wp2_with fail
      refine (big_beyond p q lp lq X Y _ (by exact hp) (by exact hq)).mono ?_
      rintro e w' ⟨d, k, rfl, rfl, hd, hd1, hd2⟩
      have g2 : d < 0 := by
        rcases Int.lt_or_le d 0 with h | h
        · exact h
        · have := hd.1 h; omega
      clear hd
      go_wp2_with (first
        | (refine wpList_load_row rfl 136 (.tmp 25) rfl q rfl 136 cs (0, 0) _ (by exact hcs) Tryz.underlying136 rfl hC.info ?_)
        | (refine wpList_store_row rfl 136 (.tmp 4) (.tmp 26) rfl w.heap.size cs rfl rfl 136 Tryz.zeroCells136 (by exact heap_alloc_new _ _) hC.info (by rw [zeroCells_wide, wc0_size, hC.size]) hC.one ?_)
        | (go_at_call 131
           refine (big_carry0 w.heap.size p (by omega) lq lp Y X (-1) _ (by exact hC.big (setRow_new _ _ _ _)) (by exact hp.copied) (by omega) (by omega) (by omega) (by omega)).mono ?_
           rintro e w' ⟨rfl, hg, hb⟩
           obtain ⟨cs2, hcs2, hC2⟩ := hb.cells
           have hp2 := (Big.copied (o := Tryz.zeroCells136) (cs := cs) (T := 136) hp).grown (g := w.heap.size) (w' := w') ⟨hg.os, hg.tape, hg.output, hg.size, hg.block⟩ (by omega)
           obtain ⟨cp, hcp, hCp⟩ := hp2.cells)
        | (refine wpList_load_row rfl 136 (.tmp 4) rfl w.heap.size rfl 136 cs2 (0, 0) _ hcs2 Tryz.underlying136 rfl hC2.info ?_)
        | (refine wpList_store_row rfl 136 (.tmp 31) (.tmp 30) rfl p cs2 rfl rfl 136 cp hcp hC2.info (by rw [hCp.size, hC2.size]) hC2.one ?_))
      go_end0
      refine ⟨rfl, copied_only (w := w) (o := Tryz.zeroCells136) (cs := cs) (T := 136) ⟨hg.os, hg.tape, hg.output, hg.size, hg.block⟩ cs2, lq, _, hC2.big (setRow_heap _ _ _ _ _ _ hcp), ?_⟩
      rcases lp <;> rcases lq <;> simp [sval] at * <;> omega

end Go.Proofs.YtgkiaonakiflbaaGreatDoor

/- The contract of (*wide).times. -/
namespace Go.Proofs.YtgkiaonakiflbaaGreatDoor
open Go.RowKit

theorem sval_mul (a b : Bool) (X Y : Int) : sval (!(a == b)) (X * Y) = sval a X * sval b Y := by
  cases a <;> cases b <;> simp [sval, Int.neg_mul, Int.mul_neg]

/-- What times leaves: a pointer to a new number. -/
def NewZ (z : Int) (w : World) (e : Ending) (w' : World) : Prop := ∃ p, e = .returned (.pointer (some ⟨p, 0, none⟩)) ∧ w.heap.size ≤ p ∧ Below w.heap.size w w' ∧ BigZ w' p z

theorem mul_lt_PB {X Y : Int} {a b n : Nat} (hX0 : 0 ≤ X) (hX : X < PB a) (_hY0 : 0 ≤ Y) (hY : Y < PB b) (h : a + b ≤ n) : X * Y < PB n := by
  have h1 : X * Y ≤ X * PB b := Int.mul_le_mul_of_nonneg_left (by omega) hX0
  have h2 : (X + 1) * PB b ≤ PB a * PB b := Int.mul_le_mul_of_nonneg_right (by omega) (by have := PB_pos b; omega)
  rw [← PB_add, Int.add_mul] at h2
  have h3 := PB_le h
  have := PB_pos b
  omega

set_option maxRecDepth 100000 in
set_option maxHeartbeats 1000000 in
theorem wide_times (px q : Nat) (lp lq : Bool) (X Y : Int) (L : Nat) (w : World) (hL : L + L ≤ 232) (hp : Big w px lp X) (hq : Big w q lq Y) (hX : X < PB L) (hY : Y < PB L) :
    Calls Tryz.prog 106 #[.pointer (some ⟨px, 0, none⟩), .pointer (some ⟨q, 0, none⟩)] w (NewZ (sval lp X * sval lq Y) w) := by
  have X0 := hp.nonneg
  have Y0 := hq.nonneg
  have c0 : w.cell? ⟨px, 0, none⟩ = some (.bool lp) := by obtain ⟨n, f, h, _⟩ := hp; exact h.c0
  have d0 : w.cell? ⟨q, 0, none⟩ = some (.bool lq) := by obtain ⟨n, f, h, _⟩ := hq; exact h.c0
  obtain ⟨n, g, hwq, hN, hv⟩ := hq
  have hn : n ≤ L := hN.le_of (by omega)
  have Hv := Lib.hid hv; clear hv
  go_enter Tryz.func106, Tryz.ntmps106
  go_wp2_with fail
  go_region
  have hW : Wide (w.alloc (.cells (Tryz.zeroCells136.setIfInBounds 0 (.bool (!(lp == lq)))) 136)).drew w.heap.size (!(lp == lq)) 0 (fun _ => 0) := wide_new _ w
  have hB : Below w.heap.size w (w.alloc (.cells (Tryz.zeroCells136.setIfInBounds 0 (.bool (!(lp == lq)))) 136)).drew := ((Below.refl w.heap.size w).alloc (Nat.le_refl _) _).drew
  generalize (w.alloc (.cells (Tryz.zeroCells136.setIfInBounds 0 (.bool (!(lp == lq)))) 136)).drew = W1 at *
  have hplt := hp.lt
  have hqlt := hwq.lt
  obtain ⟨p, hpp⟩ : ∃ p, p = w.heap.size := ⟨_, rfl⟩
  rw [← hpp] at hW hB hplt hqlt ⊢
  have Hp := Lib.hid hpp; clear hpp
  have e1 : W1.cell? ⟨q, 1, none⟩ = some (.int .i64 n) := (hwq.below hB hqlt).c1
  have b0 := hW.big0
  go_wp2_with fail
  go_loopw [22] (fun i wr => ∃ k : Nat, k ≤ n ∧ i = .int .i64 k ∧ Big wr p (!(lp == lq)) (X * wsum g k) ∧ Below p w wr) (fun i _ => n - (intOf i).toNat)
  case atStart => exact ⟨0, Nat.zero_le _, rfl, by rw [wsum_zero, Int.mul_zero]; exact b0, hB⟩
  case round =>
    obtain ⟨k, hk, rfl, hb, hbr⟩ := hrel
    by_cases hlt : k < n
    · have g1 : decide ((k : Int) < (n : Int)) = true := by simpa using hlt
      have g2 : decide (k < n) = true := by simpa using hlt
      have hwq' := hwq.below hbr hqlt
      have hp' : Big wr px lp X := hp.below hbr hplt
      have ck := hwq'.cw k (by omega)
      have hin := hN.inb k (by omega)
      have hs0 := wsum_nonneg (hN.inb.le (show k ≤ 232 by omega))
      have hs1 := wsum_nonneg (hN.inb.le (show k + 1 ≤ 232 by omega))
      have hs2 := wsum_lt (hN.inb.le (show k + 1 ≤ 232 by omega))
      have hval : X * wsum g k + g k * X * PB k = X * wsum g (k + 1) := by
        rw [wsum_succ, Int.mul_add, Int.mul_comm (g k) X, Int.mul_assoc]
      have hm := mul_lt_PB X0 hX hs1 hs2 (show L + (k + 1) ≤ 232 by omega)
      have hm0 := Int.mul_nonneg X0 hs1
      obtain ⟨i1, i2⟩ := hin
      generalize g k = gk at *
      have Hval := Lib.hid hval; clear hval
      go_wp2_with (go_at_call 131; refine (big_carry p px (by omega) _ lp (X * wsum g k) X gk k L _ hb hp' (by omega) (by omega) hX (by omega) (by rw [Hval.out]; exact hm0) (by rw [Hval.out]; exact hm)).mono ?_; rintro e w' ⟨rfl, hg, hb2⟩)
      rw [Hval.out] at hb2
      go_roundw
      case rel => exact ⟨k + 1, by omega, by go_num, hb2, only_new hbr hg (by have := hb.lt; omega) (Nat.le_refl _)⟩
      case measure => simp [intOf]; omega
    · have hkn : k = n := by omega
      have g1 : decide ((k : Int) < (n : Int)) = false := by simpa using hlt
      have g2 : decide (k < n) = false := by simpa using hlt
      have Hkn := Lib.hid hkn; clear hkn
      go_wp2_with fail
      go_ret
      refine ⟨p, rfl, by rw [← Hp.out]; exact Nat.le_refl _, by rw [← Hp.out]; exact hbr, _, _, hb, ?_⟩
      rw [Hkn.out, Hv.out]; exact sval_mul lp lq X Y

end Go.Proofs.YtgkiaonakiflbaaGreatDoor

/- The contract of whole.estimate. -/
namespace Go.Proofs.YtgkiaonakiflbaaGreatDoor
open Go.RowKit

/-- A word, or 0 where there is none. -/
def topv (g : Nat → Int) (n : Nat) (i : Int) : Int := if 0 ≤ i ∧ i < n then g i.toNat else 0

theorem topv_range {g : Nat → Int} {n : Nat} (h : InB g 232) (hn : n ≤ 232) (i : Int) : 0 ≤ topv g n i ∧ topv g n i < 1000000000 := by
  unfold topv
  split
  · exact h _ (by omega)
  · omega

theorem est_top (p : Nat) (l : Bool) (n : Nat) (g : Nat → Int) (i : Int) (w : World) (hn : n ≤ 232) (hw : Wide w p l n g) (h0 : -1 ≤ i) (h1 : i ≤ 300) :
    Calls Tryz.prog 165 #[.pointer (some ⟨p, 0, none⟩), .int .i64 i] w fun e w' => e = .returned (.int .i64 (topv g n i)) ∧ w' = w := by
  have c1 := hw.c1
  by_cases hi : 0 ≤ i ∧ i < n
  · obtain ⟨k, rfl⟩ : ∃ k : Nat, i = (k : Int) := ⟨i.toNat, by omega⟩
    have ck := hw.cw k (by omega)
    obtain ⟨ha, hb⟩ := hi
    have e : topv g n k = g k := by unfold topv; rw [if_pos ⟨ha, hb⟩]; rfl
    have E := Lib.hid e; clear e
    go_enter Tryz.func165, Tryz.ntmps165
    go_wp2_with fail
    all_goals (go_ret)
    all_goals exact ⟨ret_int E.out.symm, rfl⟩
  · have e : topv g n i = 0 := by unfold topv; rw [if_neg hi]
    have E := Lib.hid e; clear e
    by_cases hneg : i < 0
    · have g1 : decide (i < 0) = true := by simpa using hneg
      go_enter Tryz.func165, Tryz.ntmps165
      go_wp2_with fail
      go_ret
      exact ⟨ret_int E.out.symm, rfl⟩
    · have g1 : decide (i < 0) = false := by simpa using hneg
      have g2 : (n : Int) ≤ i := by omega
      have g3 : decide ((n : Int) ≤ i) = true := by simpa using g2
      clear hi
      go_enter Tryz.func165, Tryz.ntmps165
      go_wp2_with fail
      go_ret
      exact ⟨ret_int E.out.symm, rfl⟩

/-- What estimate answers. -/
def EstR (X Y : Int) (w : World) (e : Ending) (w' : World) : Prop := ∃ (k : Int) (nq : Nat), e = .returned (.int .i64 k) ∧ w' = w.drewN nq ∧ 1 ≤ k ∧ k ≤ 999999999 ∧ k * Y ≤ X

theorem top_two {f : Nat → Int} {m n : Nat} (hf : Norm m f) (hn : 0 < n) (hX : wsum f m < PB (n + 1)) :
    (topv f m n * 1000000000 + topv f m ((n : Int) - 1)) * PB (n - 1) ≤ wsum f m := by
  have hm := hf.le_of hX
  obtain ⟨j, rfl⟩ : ∃ j, n = j + 1 := ⟨n - 1, by omega⟩
  rw [Nat.add_sub_cancel, show ((j + 1 : Nat) : Int) - 1 = (j : Int) by omega]
  have hj := PB_pos j
  have step : ∀ k, k ≤ m → 0 ≤ wsum f k := fun k hk => wsum_nonneg (hf.inb.le (by have := hf.le; omega))
  rcases Nat.lt_or_ge m (j + 1) with h1 | h1
  · have e1 : topv f m ((j + 1 : Nat) : Int) = 0 := by unfold topv; rw [if_neg (by omega)]
    have e2 : topv f m (j : Int) = 0 := by unfold topv; rw [if_neg (by omega)]
    rw [e1, e2, Int.zero_mul, Int.zero_add, Int.zero_mul]
    exact hf.nonneg
  · rcases Nat.lt_or_ge m (j + 2) with h2 | h2
    · obtain rfl : m = j + 1 := by omega
      have e1 : topv f (j + 1) ((j + 1 : Nat) : Int) = 0 := by unfold topv; rw [if_neg (by omega)]
      have e2 : topv f (j + 1) (j : Int) = f j := by unfold topv; rw [if_pos (by omega)]; rfl
      rw [e1, e2, wsum_succ, Int.zero_mul, Int.zero_add]
      have := step j (by omega)
      omega
    · obtain rfl : m = j + 2 := by omega
      have e1 : topv f (j + 2) ((j + 1 : Nat) : Int) = f (j + 1) := by unfold topv; rw [if_pos (by omega)]; rfl
      have e2 : topv f (j + 2) (j : Int) = f j := by unfold topv; rw [if_pos (by omega)]; rfl
      rw [e1, e2, wsum_succ, wsum_succ, PB_succ, Int.add_mul]
      have := step j (by omega)
      have e3 : f (j + 1) * 1000000000 * PB j = f (j + 1) * (PB j * 1000000000) := by rw [Int.mul_assoc, Int.mul_comm 1000000000]
      omega

theorem est_bound {X Y a b P k : Int} (hP : 0 < P) (h1 : a * P ≤ X) (h2 : Y ≤ b * P) (hb : 0 < b) (hk0 : 0 ≤ k) (hk : k ≤ a / b) : k * Y ≤ X := by
  have h3 : k * Y ≤ k * (b * P) := Int.mul_le_mul_of_nonneg_left h2 hk0
  have h4 : k * b ≤ a := by
    have : k * b ≤ a / b * b := Int.mul_le_mul_of_nonneg_right hk (by omega)
    have := Int.ediv_mul_le a (show b ≠ 0 by omega)
    omega
  have h5 : k * b * P ≤ a * P := Int.mul_le_mul_of_nonneg_right h4 (by omega)
  rw [Int.mul_assoc] at h5
  omega

theorem est_topq (p : Nat) (l : Bool) (n : Nat) (g : Nat → Int) (i : Int) (w : World) (x : Nat) (hn : n ≤ 232) (hw : Wide w p l n g) (h0 : -1 ≤ i) (h1 : i ≤ 300) :
    Calls Tryz.prog 165 #[.pointer (some ⟨p, 0, none⟩), .int .i64 i] (w.drewN x) fun e w'' => e = .returned (.int .i64 (topv g n i)) ∧ ∃ k, w'' = w.drewN k :=
  (est_top p l n g i _ hn (hw.drewN x) h0 h1).mono fun _ _ ⟨he, hw⟩ => ⟨he, x, hw⟩

theorem quiet_add_same {P : Program} {f : FuncId} {args : Array Value} {w : World} {a n : Nat} {v : Value}
    (h : Calls P f args (w.drewN (a + n)) fun e w' => e = .returned v ∧ w' = w.drewN (a + n)) :
    Calls P f args (w.drewN (a + n)) fun e w'' => e = .returned v ∧ ∃ m, w'' = w.drewN (a + m) :=
  h.mono fun _ _ ⟨he, hm⟩ => ⟨he, n, hm⟩

set_option maxRecDepth 100000 in
set_option maxHeartbeats 1000000 in
theorem wide_estimate (p q : Nat) (lp lq : Bool) (m n : Nat) (f g : Nat → Int) (w : World) (hf : Norm m f) (hg : Norm n g) (hp : Wide w p lp m f) (hq : Wide w q lq n g) (hn : 0 < n)
    (hX : wsum f m < PB (n + 1)) (hYX : wsum g n ≤ wsum f m) :
    Calls Tryz.prog 152 #[.pointer (some ⟨p, 0, none⟩), .pointer (some ⟨q, 0, none⟩)] w (EstR (wsum f m) (wsum g n) w) := by
  have d1 := hq.c1
  have hm232 := hf.le
  have hn232 := hg.le
  obtain ⟨t1, t1'⟩ := topv_range hf.inb hm232 n
  obtain ⟨t2, t2'⟩ := topv_range hf.inb hm232 ((n : Int) - 1)
  obtain ⟨t3, t3'⟩ := topv_range hg.inb hn232 ((n : Int) - 1)
  go_enter Tryz.func152, Tryz.ntmps152
  go_wp2_with fail
  go_quiet ((go_at_call 165; first | (with_reducible exact est_topq p lp m f _ w _ hm232 hp (by omega) (by omega)) | (with_reducible exact est_topq q lq n g _ w _ hn232 hq (by omega) (by omega))))
  have hA := top_two hf hn hX
  have hBt : 0 < topv g n ((n : Int) - 1) := by
    have htop := hg.top hn
    have hin := hg.inb (n - 1) (by omega)
    have e : topv g n ((n : Int) - 1) = g (n - 1) := by
      unfold topv; rw [if_pos (by omega), show ((n : Int) - 1).toNat = n - 1 by omega]
    rw [e]; omega
  have hBu : wsum g n < (topv g n ((n : Int) - 1) + 1) * PB (n - 1) ∧ (n = 1 → wsum g n = topv g n ((n : Int) - 1)) := by
    obtain ⟨j, rfl⟩ : ∃ j, n = j + 1 := ⟨n - 1, by omega⟩
    have e2 : topv g (j + 1) (((j + 1 : Nat) : Int) - 1) = g j := by
      unfold topv; rw [if_pos (by omega)]; congr 1; omega
    rw [e2, Nat.add_sub_cancel, wsum_succ, Int.add_mul]
    have := wsum_lt (hg.inb.le (show j ≤ 232 by omega))
    refine ⟨by omega, fun h => ?_⟩
    obtain rfl : j = 0 := by omega
    rw [wsum_zero, PB_zero]; omega
  obtain ⟨hB1, hB2⟩ := hBu
  have hP := PB_pos (n - 1)
  have a0 : 0 ≤ topv f m n * 1000000000 + topv f m ((n : Int) - 1) := by omega
  have a1 : topv f m n * 1000000000 + topv f m ((n : Int) - 1) ≤ 1000000000000000000 := by omega
  generalize topv f m n * 1000000000 + topv f m ((n : Int) - 1) = a at *
  generalize topv g n ((n : Int) - 1) = b at *
  generalize PB (n - 1) = P at *
  generalize wsum f m = X at *
  generalize wsum g n = Y at *
  clear t1 t1' t2 t2'
  by_cases hn1 : n = 1
  · have hYb : Y ≤ b * P ∧ True := by
      refine ⟨?_, trivial⟩
      have := hB2 hn1
      have : b * 1 ≤ b * P := Int.mul_le_mul_of_nonneg_left hP (by omega)
      omega
    obtain ⟨hYb, _⟩ := hYb
    have g1 : decide (1 < (n : Int)) = false := by simp; omega
    have k0 : 0 ≤ a / b := Int.ediv_nonneg a0 (by omega)
    have k1 : a / b ≤ 1000000000000000000 := Int.le_trans (Int.ediv_le_self b a0) a1
    clear hB2
    have Hn1 := Lib.hid hn1; clear hn1
    go_wp2_with fail
    · go_ret
      exact ⟨min (a / b) 999999999, nq, rfl, rfl, by omega, by omega, est_bound (by omega) hA hYb hBt (by omega) (by omega)⟩
    · go_ret
      exact ⟨1, nq, rfl, rfl, by omega, by omega, by omega⟩
  · have hYb : Y ≤ (b + 1) * P := by omega
    have g1 : decide (1 < (n : Int)) = true := by simp; omega
    have k0 : 0 ≤ a / (b + 1) := Int.ediv_nonneg a0 (by omega)
    have k1 : a / (b + 1) ≤ 1000000000000000000 := Int.le_trans (Int.ediv_le_self (b + 1) a0) a1
    clear hB2
    go_wp2_with fail
    · go_ret
      exact ⟨min (a / (b + 1)) 999999999, nq, rfl, rfl, by omega, by omega, est_bound (by omega) hA hYb (by omega) (by omega) (by omega)⟩
    · go_ret
      exact ⟨1, nq, rfl, rfl, by omega, by omega, by omega⟩

end Go.Proofs.YtgkiaonakiflbaaGreatDoor

/- The contract of whole.divided. -/
namespace Go.Proofs.YtgkiaonakiflbaaGreatDoor
open Go.RowKit

/-- The words one place higher, the first one left as it is. -/
def shiftw (f : Nat → Int) (n : Nat) : Nat → Int := fun i => if i = 0 then f 0 else if i ≤ n then f (i - 1) else f i

theorem add_off (b o j : Nat) : (⟨b, o, none⟩ : Addr).add j = ⟨b, o + j, none⟩ := by
  unfold Addr.add
  split
  · rename_i h; rw [h]; rfl
  · rfl

def wordList (f : Nat → Int) (n : Nat) : List Value := (List.range n).map fun j => .int .i64 (f j)
theorem wordList_length (f : Nat → Int) (n : Nat) : (wordList f n).length = n := by simp [wordList]
theorem wordList_at (f : Nat → Int) (n : Nat) {j : Nat} {v : Value} (h : (wordList f n)[j]? = some v) : j < n ∧ v = .int .i64 (f j) := by
  unfold wordList at h
  rw [List.getElem?_map] at h
  rcases Nat.lt_or_ge j n with hj | hj
  · rw [List.getElem?_range hj] at h
    simp at h
    exact ⟨hj, h.symm⟩
  · rw [List.getElem?_eq_none (by simpa using hj)] at h
    simp at h
theorem wordList_get (f : Nat → Int) (n : Nat) {j : Nat} (hj : j < n) : (wordList f n)[j]? = some (.int .i64 (f j)) := by
  unfold wordList
  rw [List.getElem?_map, List.getElem?_range hj]; rfl

theorem Wide.shift {w' : World} {p n : Nat} {l : Bool} {f : Nat → Int} {cs : Array Value} (hn : n ≤ 231) (hs : cs.size = 234) (h0 : cs[0]? = some (.bool l)) (h1 : cs[1]? = some (.int .i64 (n : Int)))
    (hw : ∀ i, i < 232 → cs[2 + i]? = some (.int .i64 (f i)))
    (hg : w'.heap[p]? = some (.cells (splice cs.toList 3 (wordList f n)).toArray 136 (0, 0))) : Wide w' p l n (shiftw f n) := by
  have hl : cs.toList.length = 234 := by simpa using hs
  have hget : ∀ i, (splice cs.toList 3 (wordList f n)).toArray[i]? = if i < 3 then cs[i]? else if i < 3 + n then some (.int .i64 (f (i - 3))) else cs[i]? := by
    intro i
    rw [List.getElem?_toArray]
    unfold splice
    rw [List.getElem?_append, List.length_take, hl, show min 3 234 = 3 by omega]
    by_cases h3 : i < 3
    · rw [if_pos h3, if_pos h3, List.getElem?_take, if_pos h3]; simp
    · rw [if_neg h3, if_neg h3, List.getElem?_append, wordList_length]
      by_cases h4 : i - 3 < n
      · rw [if_pos h4, if_pos (by omega), wordList_get f n h4]
      · rw [if_neg h4, if_neg (by omega), List.getElem?_drop, show 3 + n + (i - 3 - n) = i by omega]; simp
  refine ⟨_, hg, ?_, ?_, ?_, fun i hi => ?_⟩
  · simp [splice, wordList_length, hs]; omega
  · rw [hget, if_pos (by omega)]; exact h0
  · rw [hget, if_pos (by omega)]; exact h1
  · rw [hget]
    unfold shiftw
    by_cases hi0 : i = 0
    · subst hi0; rw [if_pos (by omega), if_pos rfl]; exact hw 0 (by omega)
    · rw [if_neg (by omega), if_neg hi0]
      by_cases hin : i ≤ n
      · rw [if_pos (by omega), if_pos hin, show 2 + i - 3 = i - 1 by omega]
      · rw [if_neg (by omega), if_neg hin]; exact hw i hi

theorem wsum_shift (f : Nat → Int) (n : Nat) (d : Int) (k : Nat) (hk : k ≤ n) : wsum (upd (shiftw f n) 0 d) (k + 1) = wsum f k * 1000000000 + d := by
  induction k with
  | zero => rw [wsum_succ, wsum_zero, wsum_zero, upd_same, PB_zero]; omega
  | succ k ih =>
    rw [wsum_succ, ih (by omega), upd_other _ _ _ (by omega), wsum_succ, PB_succ]
    unfold shiftw
    rw [if_neg (by omega), if_pos (by omega), Nat.add_sub_cancel, Int.add_mul, Int.mul_assoc]
    omega

theorem inb_shift {f : Nat → Int} {n : Nat} {d : Int} (hf : InB f 232) (h0 : 0 ≤ d) (h1 : d < 1000000000) : InB (upd (shiftw f n) 0 d) 232 := by
  intro i hi
  by_cases e : i = 0
  · rw [e, upd_same]; exact ⟨h0, h1⟩
  · rw [upd_other _ _ _ e]
    unfold shiftw
    rw [if_neg e]
    split
    · exact hf _ (by omega)
    · exact hf _ hi

theorem zero_shift {f : Nat → Int} {n : Nat} {d : Int} (hz : ∀ i, n ≤ i → i < 232 → f i = 0) : ∀ i, n + 1 ≤ i → i < 232 → upd (shiftw f n) 0 d i = 0 := by
  intro i h1 h2
  rw [upd_other _ _ _ (by omega)]
  unfold shiftw
  rw [if_neg (by omega), if_neg (by omega)]
  exact hz i (by omega) h2

/-- What holds between two rounds of divided: k words are still to come. -/
structure DivInv (X Y R : Int) (f gq : Nat → Int) (mm k : Nat) : Prop where
  inb : InB gq 232
  low : ∀ j, j < k → gq j = 0
  high : ∀ j, mm ≤ j → j < 232 → gq j = 0
  mle : mm ≤ 232
  r0 : 0 ≤ R
  r1 : R < Y
  val : X = wsum gq 232 * Y + R * PB k + wsum f k

theorem DivInv.step {X Y R : Int} {f gq : Nat → Int} {mm i : Nat} (h : DivInv X Y R f gq mm (i + 1)) (hi : i < 232) {d R' : Int} (hd0 : 0 ≤ d) (hd1 : d < 1000000000) (hR0 : 0 ≤ R') (hR1 : R' < Y)
    (hv : R * 1000000000 + f i = R' + d * Y) : DivInv X Y R' f (upd gq i d) (max mm (i + 1)) i := by
  refine ⟨h.inb.upd hd0 hd1, ?_, ?_, by have := h.mle; omega, hR0, hR1, ?_⟩
  · intro j hj; rw [upd_other _ _ _ (by omega)]; exact h.low j (by omega)
  · intro j h1 h2; rw [upd_other _ _ _ (by omega)]; exact h.high j (by omega) h2
  · rw [wsum_upd _ _ _ hi, h.low i (by omega), h.val, PB_succ, wsum_succ f i]
    have e1 : R * (PB i * 1000000000) + f i * PB i = (R * 1000000000 + f i) * PB i := by
      rw [Int.add_mul, Int.mul_comm (PB i), Int.mul_assoc]
    have e2 : (wsum gq 232 + (d - 0) * PB i) * Y = wsum gq 232 * Y + d * Y * PB i := by
      rw [Int.add_mul, Int.sub_zero, Int.mul_assoc, Int.mul_comm (PB i) Y, Int.mul_assoc]
    rw [e2]
    have e3 : (R * 1000000000 + f i) * PB i = R' * PB i + d * Y * PB i := by rw [hv, Int.add_mul]
    omega

/-- What divided leaves: pointers to the quotient and to the rest. -/
def DivR (X Y : Int) (w : World) (e : Ending) (w' : World) : Prop :=
  ∃ p r, e = .returned (.tuple #[.pointer (some ⟨p, 0, none⟩), .pointer (some ⟨r, 0, none⟩)]) ∧ p ≠ r ∧ w.heap.size ≤ p ∧ w.heap.size ≤ r ∧ Below w.heap.size w w' ∧ Big w' p false (X / Y) ∧ Big w' r false (X % Y)

theorem wide_new0' (w : World) : Wide (w.alloc (.cells Tryz.zeroCells136 136)) w.heap.size false 0 (fun _ => 0) := wide_new0 w

theorem div_rel {wr : World} {p i mm k : Nat} {gq : Nat → Int} {dd : Int} (h : Wide wr p false mm gq) (hi : i < 232) :
    Wide (((wr.drewN k).setCell ⟨p, 2 + i, none⟩ (.int .i64 dd)).setCell ⟨p, 1, none⟩ (.int .i64 (max (mm : Int) ((i : Int) + 1)))) p false ((max mm (i + 1) : Nat) : Int) (upd gq i dd) := by
  have h1 := ((h.drewN k).setw i hi dd).set1 (max (mm : Int) ((i : Int) + 1))
  have e : ((max mm (i + 1) : Nat) : Int) = max (mm : Int) ((i : Int) + 1) := by omega
  rw [e]
  exact h1

set_option maxRecDepth 100000 in
set_option maxHeartbeats 2000000 in
theorem wide_divided (px q : Nat) (lp lq : Bool) (X Y : Int) (L : Nat) (w : World) (hL : L ≤ 230) (hp : Big w px lp X) (hq : Big w q lq Y) (hY0 : 0 < Y) (hY : Y < PB L) :
    Calls Tryz.prog 126 #[.pointer (some ⟨px, 0, none⟩), .pointer (some ⟨q, 0, none⟩)] w (DivR X Y w) := by
  have hplt := hp.lt
  have hqlt := hq.lt
  obtain ⟨n, f, hwx, hN, hv⟩ := hp
  have Hv := Lib.hid hv; clear hv
  have hn := hN.le
  have cx1 := hwx.c1
  go_enter Tryz.func126, Tryz.ntmps126
  go_wp2_with fail
  have hP1 : Wide ((w.alloc (.cells Tryz.zeroCells136 136)).alloc (.cells Tryz.zeroCells136 136)) w.heap.size false 0 (fun _ => 0) := (wide_new0 w).alloc _
  have hR1 : Wide ((w.alloc (.cells Tryz.zeroCells136 136)).alloc (.cells Tryz.zeroCells136 136)) (w.heap.size + 1) false 0 (fun _ => 0) := by
    have := wide_new0 (w.alloc (.cells Tryz.zeroCells136 136))
    rw [World.size_alloc] at this
    exact this
  have hB1 : Below w.heap.size w ((w.alloc (.cells Tryz.zeroCells136 136)).alloc (.cells Tryz.zeroCells136 136)) := ((Below.refl w.heap.size w).alloc (Nat.le_refl _) _).alloc (by simp) _
  generalize (w.alloc (.cells Tryz.zeroCells136 136)).alloc (.cells Tryz.zeroCells136 136) = W1 at *
  obtain ⟨p, hpp⟩ : ∃ p, p = w.heap.size := ⟨_, rfl⟩
  rw [← hpp] at hP1 hR1 hB1 hplt hqlt ⊢
  have Hp := Lib.hid hpp; clear hpp
  go_loopw [8] (fun i wr => ∃ (k mm : Nat) (R : Int) (gq : Nat → Int), k ≤ n ∧ i = .int .i64 ((k : Int) - 1) ∧ Wide wr p false mm gq ∧ Big wr (p + 1) false R ∧ DivInv X Y R f gq mm k ∧ Below p w wr) (fun i _ => (intOf i + 1).toNat)
  case atStart =>
    refine ⟨n, 0, 0, fun _ => 0, Nat.le_refl _, rfl, hP1, hR1.big0, ⟨fun _ _ => by omega, fun _ _ => rfl, fun _ _ _ => rfl, by omega, by omega, hY0, ?_⟩, hB1⟩
    rw [wsum_const_zero, Hv.out]; omega
  case round =>
    obtain ⟨k, mm, R, gq, hk, rfl, hwp, hbR, hI, hbr⟩ := hrel
    cases k with
    | zero =>
      have hmm := hI.mle
      have hval : X = wsum gq 232 * Y + R := by
        have := hI.val
        rw [PB_zero, wsum_zero] at this
        omega
      have hr0 := hI.r0
      have hr1 := hI.r1
      have HI := Lib.hid hI; have HV := Lib.hid hval; clear hI hval
      go_wp2_with fail
      refine (wide_trimmed p false mm gq _ hmm hwp).mono ?_
      rintro e w2 ⟨rfl, hg2, hm2⟩
      go_wp2_with fail
      go_ret2
      obtain ⟨k2, hk2, hwk, hzk, htk⟩ := hm2
      have hN2 := norm_trim HI.out.inb hmm HI.out.high hk2 hzk htk
      have hBB : Big w2 p false (wsum gq 232) := ⟨k2, gq, hwk, hN2, hN2.sum.symm⟩
      have e1 : X / Y = wsum gq 232 := by
        rw [HV.out, Int.add_comm, Int.add_mul_ediv_right _ _ (by omega), Int.ediv_eq_zero_of_lt hr0 hr1, Int.zero_add]
      have e2 : X % Y = R := by
        rw [HV.out, Int.add_comm, Int.add_mul_emod_self_right, Int.emod_eq_of_lt hr0 hr1]
      refine ⟨p, p + 1, rfl, by omega, by rw [← Hp.out]; exact Nat.le_refl _, by rw [← Hp.out]; omega, ?_, ?_, ?_⟩
      · rw [← Hp.out]; exact only_new hbr hg2 (by have := hwp.lt; omega) (Nat.le_refl _)
      · rw [e1]; exact hBB
      · rw [e2]; exact hbR.grown hg2 (by omega)
    | succ i =>
      obtain ⟨rn, rf, hwr, hrN, hrv⟩ := hbR
      have hrn : rn ≤ 230 := by
        have := hrN.le_of (L := L) (by have := hI.r1; omega)
        omega
      obtain ⟨cs, hcs, hsz, h0, h1, hcw⟩ := hwr
      have hone := Wide.one hsz h0 h1 hcw
      have hwr : Wide wr (p + 1) false rn rf := ⟨cs, hcs, hsz, h0, h1, hcw⟩
      have hb1 : Below (p + 1) wr wr := Below.refl _ _
      have r1 := hwr.c1
      have hsrc : ∀ j v, (wordList rf rn)[j]? = some v → wr.cell? ((⟨p + 1, 2, none⟩ : Addr).add j) = some v := by
        intro j v hj
        obtain ⟨h1, rfl⟩ := wordList_at _ _ hj
        rw [add_off]
        exact hwr.cw j (by omega)
      have hfit : 3 + (wordList rf rn).length ≤ cs.toList.length := by rw [wordList_length]; simp; omega
      have hws : ∀ v ∈ wordList rf rn, v.oneCell' = true := by
        intro v hv
        unfold wordList at hv
        rw [List.mem_map] at hv
        obtain ⟨j, _, rfl⟩ := hv
        rfl
      have i0 : (0 : Int) ≤ (rn : Int) := by omega
      have i1 : (rn : Int) ≤ 232 := by omega
      have i2 : rn ≤ 232 := by omega
      go_wp2_with fail
      go_region_law (refine step_copy_splice rfl (.tmp 27) (.tmp 35) 160 160 rfl 3 Tryz.underlying160 (by kernel_rfl) _ _ 231 231 rn 232 rfl rfl (p + 1) 3 cs.toList 136 (by exact hcs) (wordList rf rn) (by rw [wordList_length]; exact (Nat.min_eq_left (by omega)).symm) (fun _ => ⟨rfl, _, rfl, hsrc⟩) hfit hws (p + 1) wr (by exact ⟨hb1.os, hb1.tape, hb1.output, hb1.size, hb1.block⟩) (Nat.le_refl _) ?_; intro w4 hg4 hb4)
      have hw4 := Wide.shift (by omega) hsz h0 h1 hcw hg4.out
      have hB4 : Below p w w4 := hbr.trans (hb4.mono (by omega))
      have hp4 := hwp.below hb4 (by omega)
      have hx4 : Wide w4 px lp n f := hwx.below hB4 hplt
      clear hg4 hcs hsz h0 h1 hcw hsrc hfit hws hone hb1
      have dx := hx4.cw i (by omega)
      have din := hN.inb i (by omega)
      obtain ⟨din0, din1⟩ := din
      have hRv : R = wsum rf 232 := by rw [← hrv, hrN.sum]
      obtain ⟨d, hd⟩ : ∃ d, d = f i := ⟨_, rfl⟩
      rw [← hd] at dx din0 din1
      have Hd := Lib.hid hd; clear hd
      have e0 := hw4.cw 0 (by omega)
      have e1 := hw4.c1
      have e2 := hw4.frozen
      have j0 : (0 : Int) ≤ (i : Int) := by omega
      have j1 : (i : Int) < 232 := by omega
      go_wp2_with fail
      go_region
      go_wp2_with fail
      have hw5 : Wide ((w4.setCell ⟨p + 1, 2, none⟩ (.int .i64 d)).setCell ⟨p + 1, 1, none⟩ (.int .i64 ((rn : Int) + 1))).drew (p + 1) false ((rn + 1 : Nat) : Int) (upd (shiftw rf rn) 0 d) := (hw4.setw 0 (by omega) d).set1 ((rn : Int) + 1)
      have hB5 : Below (p + 1) w4 ((w4.setCell ⟨p + 1, 2, none⟩ (.int .i64 d)).setCell ⟨p + 1, 1, none⟩ (.int .i64 ((rn : Int) + 1))).drew := (((Below.refl _ _).setCell (p := ⟨p + 1, 2, none⟩) (Nat.le_refl _) _).setCell (p := ⟨p + 1, 1, none⟩) (Nat.le_refl _) _).drew
      generalize ((w4.setCell ⟨p + 1, 2, none⟩ (.int .i64 d)).setCell ⟨p + 1, 1, none⟩ (.int .i64 ((rn : Int) + 1))).drew = w5 at *
      refine (wide_trimmed (p + 1) false (rn + 1) _ _ (by omega) hw5).mono ?_
      rintro e w6 ⟨rfl, hg6, hm6⟩
      have hR6 : Big w6 (p + 1) false (R * 1000000000 + d) := by
        obtain ⟨k6, hk6, hwk, hzk, htk⟩ := hm6
        have hN6 := norm_trim (inb_shift hrN.inb din0 din1) (by omega) (zero_shift hrN.zero) hk6 hzk htk
        refine ⟨k6, _, hwk, hN6, ?_⟩
        rw [← hN6.sum, hRv, hrN.sum, wsum_tail (m := rn + 1) (by omega) (fun i h1 h2 => zero_shift hrN.zero i h1 h2)]
        exact wsum_shift rf rn d rn (Nat.le_refl _)
      have hB6 : Below (p + 1) w4 w6 := hB5.grown hg6 (by have := hw5.lt; omega) (fun q e => by injection e with e; omega)
      have hp6 := hp4.below hB6 (by omega)
      have hBw6 : Below p w w6 := hB4.trans (hB6.mono (by omega))
      clear hm6 hg6 hw5 hB5 e0 e1 e2 dx hx4 hw4 hB6 hp4 hwr hwp hbr r1
      have hR0 := hI.r0
      have hR1' := hI.r1
      obtain ⟨R6, hR6e⟩ : ∃ R6, R6 = R * 1000000000 + d := ⟨_, rfl⟩
      rw [← hR6e] at hR6
      have hR6b : R6 < Y * 1000000000 := by omega
      have hR60 : 0 ≤ R6 := by omega
      have HR6 := Lib.hid hR6e; clear hR6e
      have HRv := Lib.hid hRv; have Hrv := Lib.hid hrv; clear hRv hrv
      go_wp2_with fail
      go_loopw [9] (fun g wi => ∃ (dd R' : Int), g = .int .i64 dd ∧ 0 ≤ dd ∧ Big wi (p + 1) false R' ∧ Hid (R6 = R' + dd * Y) ∧ w6.grownBy wi (some (p + 1))) (fun g _ => (1000000000 - intOf g).toNat)
      case atStart => exact ⟨0, R6, rfl, by omega, hR6, show _ = _ by omega, only_refl _ _⟩
      case round =>
        obtain ⟨dd, R', rfl, hdd, hbi, heq, hgi⟩ := hrel
        have hBi : Below p w wr := only_new hBw6 hgi (by have := hR6.lt; omega) (by omega)
        have hqi : Big wr q lq Y := hq.below hBi hqlt
        have hpi : Wide wr p false mm gq := hp6.grown hgi (by omega)
        have hR'0 := hbi.nonneg
        have hdY : dd * Y < 1000000000 * Y := by have := heq.out; omega
        have hdd1 : dd < 1000000000 := Int.lt_of_mul_lt_mul_right hdY (by omega)
        have hddY0 : 0 ≤ dd * Y := Int.mul_nonneg hdd (by omega)
        by_cases hge : Y ≤ R'
        · obtain ⟨ny, g, hwy, hNy, hvy⟩ := hqi
          obtain ⟨nr, fr, hwr, hNr, hvr⟩ := hbi
          have hny : 0 < ny := by
            rcases Nat.eq_zero_or_pos ny with e | e
            · subst e; rw [wsum_zero] at hvy; omega
            · exact e
          have hXb : wsum fr nr < PB (ny + 1) := by
            rw [hvr, PB_succ]
            have := hNy.lt
            have := heq.out
            omega
          have hYX : wsum g ny ≤ wsum fr nr := by rw [hvr, hvy]; exact hge
          have hE := fun x : Nat => wide_estimate (p + 1) q false lq nr ny fr g (wr.drewN x) hNr hNy (hwr.drewN x) (hwy.drewN x) hny hXb hYX
          rw [hvr, hvy] at hE
          have HE := Lib.hid hE; clear hE
          have hbi : Big wr (p + 1) false R' := ⟨nr, fr, hwr, hNr, hvr⟩
          have hqi : Big wr q lq Y := ⟨ny, g, hwy, hNy, hvy⟩
          clear hXb hYX hvy hvr hwy hwr
          go_wp2_with fail
          refine (big_beyond (p + 1) q false lq R' Y _ hbi hqi).mono ?_
          rintro e w7 ⟨b7, k7, rfl, rfl, h7, h71, h72⟩
          have g7 : 0 ≤ b7 := h7.2 hge
          clear h7
          go_wp2_with fail
          refine (HE.out k7).mono ?_
          rintro e w8 ⟨k, k8, rfl, rfl, hk1, hk2, hk3⟩
          have hneg : -k * Y = -(k * Y) := Int.neg_mul k Y
          have hk0 : 0 ≤ k * Y := Int.mul_nonneg (by omega) (by omega)
          have Hneg := Lib.hid hneg; clear hneg
          go_wp2_with fail
          have hbd := hbi.bound
          refine (big_carry0 (p + 1) q (by omega) false lq R' Y (-k) _ (by exact hbi) (by exact hqi) (by omega) (by omega) (by rw [Hneg.out]; omega) (by rw [Hneg.out]; omega)).mono ?_
          rintro e w9 ⟨rfl, hg9, hb9⟩
          go_wp2_with fail
          go_roundw
          case rel => exact ⟨dd + k, _, rfl, by omega, hb9, show _ = _ by rw [Hneg.out, Int.add_mul]; have := heq.out; omega, only_trans hgi ⟨hg9.os, hg9.tape, hg9.output, hg9.size, hg9.block⟩⟩
          case measure => simp [intOf]; omega
        · have q1 := hpi.c1
          have qw := hpi.cw i (by omega)
          have qf := hpi.frozen
          have hin : i < 232 := by omega
          have hmm := hI.mle
          have hst := hI.step hin hdd hdd1 hR'0 (show R' < Y by omega) (by rw [← Hd.out, ← HR6.out]; exact heq.out)
          have hbx : (wr.drewN 0).heap.size = wr.heap.size := rfl
          have HI := Lib.hid hI; clear hI
          go_wp2_with fail
          refine (big_beyond (p + 1) q false lq R' Y _ hbi hqi).mono ?_
          rintro e w7 ⟨b7, k7, rfl, rfl, h7, h71, h72⟩
          have g7 : b7 < 0 := by
            rcases Int.lt_or_le b7 0 with h | h
            · exact h
            · have := h7.1 h; omega
          clear h7
          go_wp2_with fail
          go_roundw
          case rel =>
            refine ⟨i, _, _, _, by omega, rfl, div_rel hpi hin, ?_, hst, ?_⟩
            · exact (hbi.keep (w' := wr.drewN k7) rfl).keep (by rw [Below.heap_setCell _ _ _ _ (by simp), Below.heap_setCell _ _ _ _ (by simp)])
            · exact ((below_drewN hBi k7).setCell (p := ⟨p, 2 + i, none⟩) (Nat.le_refl _) _).setCell (p := ⟨p, 1, none⟩) (Nat.le_refl _) _
          case measure => simp [intOf]

end Go.Proofs.YtgkiaonakiflbaaGreatDoor
