/- RatioRing's great region: what each of its operations leaves. -/
import Derived.Test.YtgkiaonakiflbaaGreatDoorLi
import Derived.Test.YtgkiaonakiflbaaGreatDoorRel
namespace Go.Proofs.YtgkiaonakiflbaaGreatDoor
open Go.RowKit

/-- The values of the region's temporaries, from slot 26 on; g and g2: where its two slices lie. -/
def ringVals (a b c z1 z2 z3 z4 z6 z7 z9 z10 zn : ByteArray) (A B : Nat) (g g2 : Nat) : List Value := [
  .func (.func 50) #[] #[.pointer (some ⟨B, 0, none⟩)],
  .string a,
  .string b,
  .string z1,
  .func (.func 50) #[] #[.pointer (some ⟨B, 0, none⟩)],
  .string b,
  .string a,
  .string z1,
  .agg #[.string z1, .string z1],
  .func (.func 52) #[] #[.pointer (some ⟨B, 0, none⟩)],
  .string a,
  .string b,
  .string z2,
  .func (.func 52) #[] #[.pointer (some ⟨B, 0, none⟩)],
  .string b,
  .string a,
  .string z2,
  .agg #[.string z2, .string z2],
  .func (.func 50) #[] #[.pointer (some ⟨B, 0, none⟩)],
  .func (.func 50) #[] #[.pointer (some ⟨B, 0, none⟩)],
  .string a,
  .string b,
  .string z1,
  .string c,
  .string z3,
  .func (.func 50) #[] #[.pointer (some ⟨B, 0, none⟩)],
  .string a,
  .func (.func 50) #[] #[.pointer (some ⟨B, 0, none⟩)],
  .string b,
  .string c,
  .string z4,
  .string z3,
  .agg #[.string z3, .string z3],
  .func (.func 52) #[] #[.pointer (some ⟨B, 0, none⟩)],
  .func (.func 52) #[] #[.pointer (some ⟨B, 0, none⟩)],
  .string a,
  .string b,
  .string z2,
  .string c,
  .string z6,
  .func (.func 52) #[] #[.pointer (some ⟨B, 0, none⟩)],
  .string a,
  .func (.func 52) #[] #[.pointer (some ⟨B, 0, none⟩)],
  .string b,
  .string c,
  .string z7,
  .string z6,
  .agg #[.string z6, .string z6],
  .func (.func 52) #[] #[.pointer (some ⟨B, 0, none⟩)],
  .string a,
  .func (.func 50) #[] #[.pointer (some ⟨B, 0, none⟩)],
  .string b,
  .string c,
  .string z4,
  .string z9,
  .func (.func 50) #[] #[.pointer (some ⟨B, 0, none⟩)],
  .func (.func 52) #[] #[.pointer (some ⟨B, 0, none⟩)],
  .string a,
  .string b,
  .string z2,
  .func (.func 52) #[] #[.pointer (some ⟨B, 0, none⟩)],
  .string a,
  .string c,
  .string z10,
  .string z9,
  .agg #[.string z9, .string z9],
  .pointer (some ⟨A, 0, none⟩),
  .func (.func 50) #[] #[.pointer (some ⟨B, 0, none⟩)],
  .string a,
  .string b,
  .string z1,
  .string b,
  .tuple #[.string a, .int .i64 0],
  .string a,
  .int .i64 0,
  .string a,
  .string a,
  .agg #[.string a, .string a],
  .func (.func 50) #[] #[.pointer (some ⟨B, 0, none⟩)],
  .string a,
  .pointer (some ⟨A, 0, none⟩),
  .string a,
  .tuple #[.string zn, .int .i64 0],
  .string zn,
  .int .i64 0,
  .string zn,
  .string ⟨#[48]⟩,
  .agg #[.string ⟨#[48]⟩, .string ⟨#[48]⟩],
  .pointer (some ⟨A, 0, none⟩),
  .string a,
  .string b,
  .string c,
  .slice (some ⟨g, 0, none⟩) 3 3,
  .tuple #[.string z3, .int .i64 0],
  .string z3,
  .int .i64 0,
  .string z3,
  .func (.func 50) #[] #[.pointer (some ⟨B, 0, none⟩)],
  .string a,
  .func (.func 50) #[] #[.pointer (some ⟨B, 0, none⟩)],
  .string b,
  .string c,
  .string z4,
  .string z3,
  .agg #[.string z3, .string z3],
  .slice (some ⟨g2, 0, none⟩) 8 8,
  .slice (some ⟨g2, 0, none⟩) 8 8]
theorem ringVals_len (a b c z1 z2 z3 z4 z6 z7 z9 z10 zn : ByteArray) (A B : Nat) (g g2 : Nat) : (ringVals a b c z1 z2 z3 z4 z6 z7 z9 z10 zn A B g g2).length = 107 := rfl
theorem ringVals_set (a b c z1 z2 z3 z4 z6 z7 z9 z10 zn : ByteArray) (A B : Nat) (g g2 : Nat) : ringVals a b c z1 z2 z3 z4 z6 z7 z9 z10 zn A B g g2 = (((ringVals a b c z1 z2 z3 z4 z6 z7 z9 z10 zn A B 0 0).set 92 (.slice (some ⟨g, 0, none⟩) 3 3)).set 105 (.slice (some ⟨g2, 0, none⟩) 8 8)).set 106 (.slice (some ⟨g2, 0, none⟩) 8 8) := rfl
theorem ringVals_at (a b c z1 z2 z3 z4 z6 z7 z9 z10 zn : ByteArray) (A B : Nat) (g g2 k : Nat) (h1 : k ≠ 92) (h2 : k ≠ 105) (h3 : k ≠ 106) : (ringVals a b c z1 z2 z3 z4 z6 z7 z9 z10 zn A B g g2)[k]? = (ringVals a b c z1 z2 z3 z4 z6 z7 z9 z10 zn A B 0 0)[k]? := by
  rw [ringVals_set, List.getElem?_set_ne (by omega), List.getElem?_set_ne (by omega), List.getElem?_set_ne (by omega)]

/-- Who writes a temporary. -/
def ringWr (t : Nat) : Option Nat := if 26 ≤ t ∧ t ≤ 131 then some (t - 26) else if t = 10 then some 106 else none

structure RX (w0 : World) (A B : Nat) (w : World) : Prop where
  ring : Ring w A B
  below : Below w0.heap.size w0 w
  hA : w0.heap.size ≤ A
def RM (A : Nat) (w w' : World) : Prop := w.grownBy w' (some A)
def RowP (a b c : ByteArray) (A : Nat) (w : World) (g : Nat) : Prop := Row w g 0 (strs [a, b, c]) ∧ g ≠ A
def PairP (xs : List Value) (w0 : World) (A : Nat) (w : World) (g : Nat) : Prop := w.heap[g]? = some (.cells xs.toArray 74 (0, 0)) ∧ g ≠ A ∧ w0.heap.size ≤ g
/-- What a listed operation says. -/
def RV (w0 : World) (xs : List Value) (a b c z1 z2 z3 z4 z6 z7 z9 z10 zn : ByteArray) (A B : Nat) (k : Nat) (v : Value) (w : World) : Prop :=
  ∃ g g2, (ringVals a b c z1 z2 z3 z4 z6 z7 z9 z10 zn A B g g2)[k]? = some v ∧ (k = 92 → RowP a b c A w g) ∧ ((k = 105 ∨ k = 106) → PairP xs w0 A w g2)

theorem RowP.mono {a b c : ByteArray} {A g : Nat} {w w' : World} (h : RowP a b c A w g) (hm : RM A w w') : RowP a b c A w' g := by
  obtain ⟨⟨h1, h2⟩, h3⟩ := h
  have hb := hm.block g h1 (fun e => h3 (by injection e))
  have hc : ∀ i (h : i < (strs [a, b, c]).length), w'.cell? ⟨g, 0 + i, none⟩ = some (strs [a, b, c])[i] := fun i hi => by
    rw [World.cell?_of_block (w := w) hb]; exact h2 i hi
  exact ⟨⟨block_lt_of_cell (hc 0 (by simp [strs])), hc⟩, h3⟩
theorem PairP.mono {xs : List Value} {w0 : World} {A g : Nat} {w w' : World} (h : PairP xs w0 A w g) (hm : RM A w w') : PairP xs w0 A w' g := by
  obtain ⟨h1, h2, h3⟩ := h
  refine ⟨?_, h2, h3⟩
  rw [hm.block g (Array.getElem?_eq_some_iff.1 h1).1 (fun e => h2 (by injection e))]
  exact h1
theorem RV.mono {w0 : World} {xs : List Value} {a b c z1 z2 z3 z4 z6 z7 z9 z10 zn : ByteArray} {A B k : Nat} {v : Value} {w w' : World} (h : RV w0 xs a b c z1 z2 z3 z4 z6 z7 z9 z10 zn A B k v w) (hm : RM A w w') : RV w0 xs a b c z1 z2 z3 z4 z6 z7 z9 z10 zn A B k v w' := by
  obtain ⟨g, g2, h1, h2, h3⟩ := h
  exact ⟨g, g2, h1, fun e => (h2 e).mono hm, fun e => (h3 e).mono hm⟩

/-- A literal act that has all that the region reads. -/
def ringAct (a b c z1 z2 z3 z4 z6 z7 z9 z10 zn : ByteArray) (A B : Nat) (g g2 : Nat) : Act :=
  { tmps := (([.string a, .string b, .string c, undef, undef, undef, undef, .pointer (some ⟨B, 0, none⟩), .func (.func 50) #[] #[.pointer (some ⟨B, 0, none⟩)], .func (.func 52) #[] #[.pointer (some ⟨B, 0, none⟩)]] : List Value) ++ List.replicate 16 undef ++ ringVals a b c z1 z2 z3 z4 z6 z7 z9 z10 zn A B g g2).toArray, defers := [] }
theorem ringAct_at (a b c z1 z2 z3 z4 z6 z7 z9 z10 zn : ByteArray) (A B : Nat) (g g2 k : Nat) : (ringAct a b c z1 z2 z3 z4 z6 z7 z9 z10 zn A B g g2).tmps[26 + k]? = (ringVals a b c z1 z2 z3 z4 z6 z7 z9 z10 zn A B g g2)[k]? := by
  unfold ringAct
  rw [List.getElem?_toArray, List.getElem?_append_right (by simp)]
  congr 1
  show 26 + k - 26 = k
  omega

/-- An act that is known where an operation reads agrees with the literal one. -/
theorem ring_agree {w0 : World} {xs : List Value} {a b c z1 z2 z3 z4 z6 z7 z9 z10 zn : ByteArray} {A B : Nat} {a0 a' : Act} {w : World} (g g2 : Nat) (o : Oper)
    (hp : ∀ t : Nat, ringWr t = none → Operand.tmp t ∈ o.op.operands → a0.tmps[t]? = (ringAct a b c z1 z2 z3 z4 z6 z7 z9 z10 zn A B g g2).tmps[t]?)
    (hs : ∀ t : Nat, Operand.tmp t ∈ o.op.operands → t ≠ 118 ∧ t ≠ 131 ∧ t ≠ 10)
    (hsel : ∀ cs b, o.op ≠ .select cs b)
    (hK : ∀ t, Operand.tmp t ∈ o.op.operands → Known ringWr a0 (RV w0 xs a b c z1 z2 z3 z4 z6 z7 z9 z10 zn A B) t a' w) :
    execOp a'.eval o = execOp (ringAct a b c z1 z2 z3 z4 z6 z7 z9 z10 zn A B g g2).eval o := by
  refine execOp_congr o hsel fun x hx => ?_
  cases x with
  | tmp t0 =>
    obtain ⟨t, rfl⟩ : ∃ t : Nat, t = t0 := ⟨t0, rfl⟩
    have hk := hK t hx
    have h1 : a'.tmps[t]? = (ringAct a b c z1 z2 z3 z4 z6 z7 z9 z10 zn A B g g2).tmps[t]? := by
      unfold Known at hk
      cases hw : ringWr t with
      | none => rw [hw] at hk; exact (show a'.tmps[t]? = a0.tmps[t]? from hk).trans (hp t hw hx)
      | some k =>
        rw [hw] at hk
        obtain ⟨v, hv, g', g2', hV, _⟩ := hk
        have hs' : ∀ t : Nat, Operand.tmp t ∈ o.op.operands → t ≠ 118 ∧ t ≠ 131 ∧ t ≠ 10 := hs
        obtain ⟨n1, n2, n3⟩ := hs' t hx
        unfold ringWr at hw
        by_cases h26 : 26 ≤ t ∧ t ≤ 131
        · rw [if_pos h26] at hw
          obtain rfl : t - 26 = k := Option.some.inj hw
          rw [hv, ← hV, ringVals_at _ _ _ _ _ _ _ _ _ _ _ _ _ _ g' g2' (t - 26) (by omega) (by omega) (by omega), ← ringVals_at _ _ _ _ _ _ _ _ _ _ _ _ _ _ g g2 (t - 26) (by omega) (by omega) (by omega), ← ringAct_at, show 26 + (t - 26) = t by omega]
        · rw [if_neg h26, if_neg n3] at hw
          cases hw
    show a'.tmps.getD t undef = (ringAct a b c z1 z2 z3 z4 z6 z7 z9 z10 zn A B g g2).tmps.getD t undef
    simp only [Array.getD_eq_getD_getElem?, h1]
  | const v => rfl
  | global g => rfl
  | func f => rfl

/-- An operation that reads nothing of the two slices. -/
def ringOk (o : Oper) : Bool := (match o.op with | .select _ _ => false | _ => true) && o.op.operands.toList.all fun x => match x with
  | .tmp t => (decide (26 ≤ t) && decide (t < 118)) || (decide (118 < t) && decide (t < 131)) || ([0, 1, 2, 7, 8, 9] : List Nat).contains t
  | _ => true
theorem ring_agree2 {w0 : World} {xs : List Value} {a b c z1 z2 z3 z4 z6 z7 z9 z10 zn : ByteArray} {A B : Nat} {a0 a' : Act} {w : World} (g g2 : Nat) (o : Oper)
    (hp : ∀ t ∈ ([0, 1, 2, 7, 8, 9] : List Nat), a0.tmps[t]? = (ringAct a b c z1 z2 z3 z4 z6 z7 z9 z10 zn A B 0 0).tmps[t]?)
    (hok : ringOk o = true)
    (hK : ∀ t, Operand.tmp t ∈ o.op.operands → Known ringWr a0 (RV w0 xs a b c z1 z2 z3 z4 z6 z7 z9 z10 zn A B) t a' w) :
    execOp a'.eval o = execOp (ringAct a b c z1 z2 z3 z4 z6 z7 z9 z10 zn A B g g2).eval o := by
  unfold ringOk at hok
  simp only [Bool.and_eq_true] at hok
  obtain ⟨h1, h2⟩ := hok
  have h3 : ∀ t : Nat, Operand.tmp t ∈ o.op.operands → (26 ≤ t ∧ t < 118) ∨ (118 < t ∧ t < 131) ∨ t ∈ ([0, 1, 2, 7, 8, 9] : List Nat) := fun t ht => by
    have h := List.all_eq_true.1 h2 (.tmp t) (by simpa using ht)
    simp only [Bool.or_eq_true, Bool.and_eq_true, decide_eq_true_eq, List.contains_eq_mem] at h
    exact or_assoc.1 h
  refine ring_agree (xs := xs) (w := w) (w0 := w0) g g2 o (fun t hn ht => ?_) (fun t ht => ?_) (fun cs b h => ?_) hK
  · rcases h3 t ht with h | h | h
    · unfold ringWr at hn; rw [if_pos (by omega)] at hn; cases hn
    · unfold ringWr at hn; rw [if_pos (by omega)] at hn; cases hn
    · rw [hp t h]
      simp only [List.mem_cons, List.not_mem_nil, or_false] at h
      rcases h with rfl | rfl | rfl | rfl | rfl | rfl <;> rfl
  · rcases h3 t ht with h | h | h
    · exact ⟨Nat.ne_of_lt h.2, Nat.ne_of_lt (by omega), by omega⟩
    · exact ⟨by omega, by omega, by omega⟩
    · simp only [List.mem_cons, List.not_mem_nil, or_false] at h
      omega
  · rw [h] at h1; cases h1
theorem RX.alloc {w0 : World} {A B : Nat} {w : World} (h : RX w0 A B w) (k : Obj) : RX w0 A B (w.alloc k) :=
  ⟨h.ring.below ((Below.refl _ w).alloc (Nat.le_refl _) _), h.below.trans (((Below.refl _ w).alloc (Nat.le_refl _) _).mono h.below.size), h.hA⟩
theorem RM.alloc (A : Nat) (w : World) (k : Obj) : RM A w (w.alloc k) := only_below (World.grownBy.refl w (some A)) ((Below.refl _ w).alloc (Nat.le_refl _) _)

/-- A call of a function value, its parts known. -/
theorem run_call_known {P : Program} {ev : Operand → Value} {o : Oper} {w : World} {f : Operand} {args : Array Operand} {ts : Array TypeId} {F : Nat} {cap vs : Array Value} {fn : Func}
    (ho : o.op = .call { callee := .value f, args := args, argTypes := ts }) (hf : ev f = .func (.func F) #[] cap) (hv : args.map ev = vs)
    (h1 : P.funcs[F]? = some fn) (h2 : (fn.name == "runtime.NumGoroutine") = false) (h3 : fn.body.isNone = false) : (execOp ev o).run P w = .ok (.enter F (vs ++ cap)) w := by
  obtain ⟨c1, c2, c3, c4, c5, c6⟩ := o
  simp only at ho
  subst ho
  subst hv
  have h2' : ¬ fn.name = "runtime.NumGoroutine" := by simpa using h2
  have h3' : ¬ fn.body = none := fun e => by rw [e] at h3; cases h3
  simp [execOp, resolve, hf, Deferred.ofValue, invoke, callFunc, h1, h2', h3']

theorem run_pair {ev : Operand → Value} {o : Oper} {w : World} {x y : Operand} {s t : ByteArray} (ho : o.op = .build 74 #[(0, x), (1, y)]) (hx : ev x = .string s) (hy : ev y = .string t) :
    (execOp ev o).run Tryz.prog w = .ok (.value (.agg #[.string s, .string t])) w := by
  obtain ⟨c1, c2, c3, c4, c5, c6⟩ := o
  simp only at ho
  subst ho
  unfold execOp
  simp only [List.map_toArray, List.map_cons, List.map_nil, hx, hy]
  go_simp
theorem run_row3 {ev : Operand → Value} {o : Oper} {w : World} {x y z : Operand} {a b c : ByteArray} (ho : o.op = .buildSlice 25 3 #[(0, x), (1, y), (2, z)]) (hx : ev x = .string a) (hy : ev y = .string b) (hz : ev z = .string c) :
    (execOp ev o).run Tryz.prog w = .ok (.value (.slice (some ⟨w.heap.size, 0, none⟩) 3 3)) (w.alloc (.cells (strs [a, b, c]).toArray 22)) := by
  obtain ⟨c1, c2, c3, c4, c5, c6⟩ := o
  simp only at ho
  subst ho
  unfold execOp
  simp only [List.map_toArray, List.map_cons, List.map_nil, hx, hy, hz]
  go_simp
  rfl
theorem run_row8 {ev : Operand → Value} {o : Oper} {w : World} {x0 x1 x2 x3 x4 x5 x6 x7 : Operand} {s0 s1 s2 s3 s4 s5 s6 s7 t0 t1 t2 t3 t4 t5 t6 t7 : ByteArray} (ho : o.op = .buildSlice 75 8 #[(0, x0), (1, x1), (2, x2), (3, x3), (4, x4), (5, x5), (6, x6), (7, x7)])
    (h0 : ev x0 = .agg #[.string s0, .string t0]) (h1 : ev x1 = .agg #[.string s1, .string t1]) (h2 : ev x2 = .agg #[.string s2, .string t2]) (h3 : ev x3 = .agg #[.string s3, .string t3]) (h4 : ev x4 = .agg #[.string s4, .string t4]) (h5 : ev x5 = .agg #[.string s5, .string t5]) (h6 : ev x6 = .agg #[.string s6, .string t6]) (h7 : ev x7 = .agg #[.string s7, .string t7]) :
    (execOp ev o).run Tryz.prog w = .ok (.value (.slice (some ⟨w.heap.size, 0, none⟩) 8 8)) (w.alloc (.cells (strs [s0, t0, s1, t1, s2, t2, s3, t3, s4, t4, s5, t5, s6, t6, s7, t7]).toArray 74)) := by
  obtain ⟨c1, c2, c3, c4, c5, c6⟩ := o
  simp only at ho
  subst ho
  unfold execOp
  simp only [List.map_toArray, List.map_cons, List.map_nil, h0, h1, h2, h3, h4, h5, h6, h7]
  go_simp
  rfl
theorem run_load_sums {ev : Operand → Value} {o : Oper} {w : World} {x : Operand} {B : Nat} {v : Value} (ho : o.op = .load 69 x) (hx : ev x = .pointer (some ⟨B, 0, none⟩)) (hc : w.cell? ⟨B, 0, none⟩ = some v) :
    (execOp ev o).run Tryz.prog w = .ok (.value v) w := by
  obtain ⟨c1, c2, c3, c4, c5, c6⟩ := o
  simp only at ho
  subst ho
  unfold execOp
  simp only [hx]
  go_simp

/-! The calls, with their texts given. -/
theorem fix_of {w0 : World} {A B : Nat} {x : ByteArray} {w : World} {Rk : Value → World → Prop} (hX : RX w0 A B w) (hR : ∀ w', Rk (.string x) w') :
    Calls Tryz.prog 51 #[.pointer (some ⟨A, 0, none⟩), .string x, .int .i64 0] w fun e w' => ∃ v, e = .returned v ∧ RX w0 A B w' ∧ RM A w w' ∧ Rk v w' :=
  (sums_of A B x w hX.ring).mono fun _ w' ⟨he, hg, hr⟩ => ⟨_, he, ⟨hr, only_new hX.below hg hX.below.size hX.hA, hX.hA⟩, hg, hR w'⟩
theorem fix_add {w0 : World} (hE : Env w0) {A B K K' : Nat} {x y z : ByteArray} {N P M Q T U : Int} {w : World} {Rk : Value → World → Prop} (hX : RX w0 A B w) (hx : Rep K x N P) (hy : Rep K y M Q) (hK : 2 * K + 1 ≤ 1024) (hz : Rep K' z T U) (e : T * (P * Q) = (N * Q + M * P) * U) (hR : ∀ w', Rk (.string z) w') :
    Calls Tryz.prog 50 #[.string x, .string y, .pointer (some ⟨B, 0, none⟩)] w fun e w' => ∃ v, e = .returned v ∧ RX w0 A B w' ∧ RM A w w' ∧ Rk v w' :=
  (ring_add K A B x y N P M Q w (hE.below hX.below) hX.ring hx hy hK).mono fun _ w' ⟨c, hc, he, hg, hr⟩ => by
    obtain rfl : z = c := hz.eq hc e
    exact ⟨_, he, ⟨hr, only_new hX.below hg hX.below.size hX.hA, hX.hA⟩, hg, hR w'⟩
theorem fix_mul {w0 : World} (hE : Env w0) {A B K K' : Nat} {x y z : ByteArray} {N P M Q T U : Int} {w : World} {Rk : Value → World → Prop} (hX : RX w0 A B w) (hx : Rep K x N P) (hy : Rep K y M Q) (hK : 2 * K + 1 ≤ 1024) (hz : Rep K' z T U) (e : T * (P * Q) = (N * M) * U) (hR : ∀ w', Rk (.string z) w') :
    Calls Tryz.prog 52 #[.string x, .string y, .pointer (some ⟨B, 0, none⟩)] w fun e w' => ∃ v, e = .returned v ∧ RX w0 A B w' ∧ RM A w w' ∧ Rk v w' :=
  (ring_mul K A B x y N P M Q w (hE.below hX.below) hX.ring hx hy hK).mono fun _ w' ⟨c, hc, he, hg, hr⟩ => by
    obtain rfl : z = c := hz.eq hc e
    exact ⟨_, he, ⟨hr, only_new hX.below hg hX.below.size hX.hA, hX.hA⟩, hg, hR w'⟩
theorem fix_res {w0 : World} {A B K K' : Nat} {z : ByteArray} {T U N D : Int} {w : World} {Rk : Value → World → Prop} (hX : RX w0 A B w) {r : Ending} {w' : World} (h : NewRes K N D w r w') (hz : Rep K' z T U) (e : T * D = N * U) (hR : ∀ w', Rk (.tuple #[.string z, .int .i64 0]) w') :
    ∃ v, r = .returned v ∧ RX w0 A B w' ∧ RM A w w' ∧ Rk v w' := by
  obtain ⟨c, hc, he, hb⟩ := h
  obtain rfl : z = c := hz.eq hc e
  exact ⟨_, he, ⟨hX.ring.below hb, hX.below.trans (hb.mono hX.below.size), hX.hA⟩, only_below (World.grownBy.refl w (some A)) hb, hR w'⟩

theorem sum_step {w0 : World} (hE : Env w0) {xs : List Value} {a b c z1 z2 z3 z4 z6 z7 z9 z10 zn : ByteArray} {A B : Nat} {a0 a' : Act} {w : World} {o : Oper} {ts : Array TypeId} {n p m q u v : Int}
    (ho : o.op = .call { callee := .value (.func 37), args := #[.tmp 118], argTypes := ts })
    (hK : ∀ t, Operand.tmp t ∈ o.op.operands → Known ringWr a0 (RV w0 xs a b c z1 z2 z3 z4 z6 z7 z9 z10 zn A B) t a' w) (hX : RX w0 A B w)
    (ha : Rep 30 a n p) (hb : Rep 30 b m q) (hc : Rep 30 c u v) (hz3 : Rep 123 z3 ((n * q + m * p) * v + u * (p * q)) (p * q * v)) :
    stepUpon Tryz.prog (RX w0 A B) (RM A) (RV w0 xs a b c z1 z2 z3 z4 z6 z7 z9 z10 zn A B 93) w ((execOp a'.eval o).run Tryz.prog w) := by
  obtain ⟨v, hv, g, g2, hV, hP, _⟩ := hK 118 (by rw [ho]; simp [Op.operands, Call.operands])
  obtain rfl : Value.slice (some ⟨g, 0, none⟩) 3 3 = v := Option.some.inj hV
  obtain ⟨hR, hg⟩ := hP rfl
  have he : a'.eval (.tmp 118) = .slice (some ⟨g, 0, none⟩) 3 3 := by show a'.tmps.getD 118 undef = _; rw [Array.getD_eq_getD_getElem?, hv]; rfl
  rw [run_call_known (cap := #[]) (vs := #[.slice (some ⟨g, 0, none⟩) 3 3]) ho rfl (by rw [← he]; simp only [List.map_toArray, List.map_cons, List.map_nil]) Tryz.func37 rfl rfl]
  exact (call_Sum3 g 3 a b c n p m q u _ w (hE.below hX.below) ha hb hc hR).mono fun _ _ h => fix_res (Rk := RV w0 xs a b c z1 z2 z3 z4 z6 z7 z9 z10 zn A B 93) hX h hz3 (by clear hK h; grind) (fun w9 => ⟨0, 0, rfl, fun h => absurd h (by decide), fun h => absurd h (by decide)⟩)
theorem last_step {w0 : World} {xs : List Value} {a b c z1 z2 z3 z4 z6 z7 z9 z10 zn : ByteArray} {A B : Nat} {a0 a' : Act} {w : World} {o : Oper}
    (ho : o.op = .assign (.tmp 131))
    (hK : ∀ t, Operand.tmp t ∈ o.op.operands → Known ringWr a0 (RV w0 xs a b c z1 z2 z3 z4 z6 z7 z9 z10 zn A B) t a' w) (hX : RX w0 A B w) :
    stepUpon Tryz.prog (RX w0 A B) (RM A) (RV w0 xs a b c z1 z2 z3 z4 z6 z7 z9 z10 zn A B 106) w ((execOp a'.eval o).run Tryz.prog w) := by
  obtain ⟨v, hv, g, g2, hV, _, hP⟩ := hK 131 (by rw [ho]; simp [Op.operands])
  have he : a'.eval (.tmp 131) = v := by show a'.tmps.getD 131 undef = _; rw [Array.getD_eq_getD_getElem?, hv]; rfl
  obtain ⟨c1, c2, c3, c4, c5, c6⟩ := o
  simp only at ho
  subst ho
  show stepUpon Tryz.prog _ _ _ w (.ok (.value (a'.eval (.tmp 131))) w)
  rw [he]
  exact ⟨hX, World.grownBy.refl _ _, g, g2, hV, fun h => absurd h (by decide), fun _ => hP (.inl rfl)⟩

/-- An act's temporaries behind the region. -/
def mix (f : Nat → Value) (g2 : Nat) : Nat → List Value → List Value
  | _, [] => []
  | t, v :: r => (bif t == 10 then .slice (some ⟨g2, 0, none⟩) 8 8 else bif decide (26 ≤ t) && decide (t ≤ 131) then f t else v) :: mix f g2 (t + 1) r
theorem mix_len (f : Nat → Value) (g2 : Nat) (l : List Value) : ∀ t, (mix f g2 t l).length = l.length := by
  induction l with
  | nil => intro t; rfl
  | cons v r ih => intro t; unfold mix; simp [ih]
theorem mix_at (f : Nat → Value) (g2 : Nat) (l : List Value) : ∀ (t i : Nat) (v : Value), l[i]? = some v → (mix f g2 t l)[i]? = some (bif t + i == 10 then .slice (some ⟨g2, 0, none⟩) 8 8 else bif decide (26 ≤ (t + i)) && decide ((t + i) ≤ 131) then f (t + i) else v) := by
  induction l with
  | nil => intro t i v h; simp at h
  | cons x r ih =>
    intro t i v h
    unfold mix
    cases i with
    | zero =>
      rw [List.getElem?_cons_zero] at h ⊢
      obtain rfl : x = v := Option.some.inj h
      rfl
    | succ i =>
      rw [List.getElem?_cons_succ] at h ⊢
      rw [ih (t + 1) i v h, show t + 1 + i = t + (i + 1) by omega]
theorem ring_out {ops : Array Oper} {a0 a' : Act} {w0 w : World} {xs : List Value} {a b c z1 z2 z3 z4 z6 z7 z9 z10 zn : ByteArray} {A B : Nat}
    (hn : 131 < a0.tmps.size) (hd : a'.defers = a0.defers) (hsz : a'.tmps.size = a0.tmps.size)
    (hdst : ((List.range 107).all fun k => (ops[k]?.bind (·.dst)) == some (bif k == 106 then 10 else 26 + k)) = true)
    (hK : ∀ t, t < a0.tmps.size → (∀ k, ringWr t = some k → ∃ o, ops[k]? = some o ∧ o.dst = some t) → Known ringWr a0 (RV w0 xs a b c z1 z2 z3 z4 z6 z7 z9 z10 zn A B) t a' w) :
    ∃ f g2, a' = { tmps := (mix f g2 0 a0.tmps.toList).toArray, defers := a0.defers } ∧ PairP xs w0 A w g2 := by
  have hd2 : ∀ k, k < 107 → ∃ o, ops[k]? = some o ∧ o.dst = some (bif k == 106 then 10 else 26 + k) := fun k hk => by
    have := List.all_eq_true.1 hdst k (List.mem_range.2 hk)
    cases ho : ops[k]? with
    | none => rw [ho] at this; cases this
    | some o => rw [ho] at this; exact ⟨o, rfl, by simpa using this⟩
  have hK2 : ∀ t, t < a0.tmps.size → Known ringWr a0 (RV w0 xs a b c z1 z2 z3 z4 z6 z7 z9 z10 zn A B) t a' w := fun t ht => hK t ht fun k hk => by
    unfold ringWr at hk
    split at hk
    · rename_i h
      obtain rfl : t - 26 = k := Option.some.inj hk
      obtain ⟨o, h1, h2⟩ := hd2 (t - 26) (by omega)
      refine ⟨o, h1, ?_⟩
      rw [h2, show (t - 26 == 106) = false by simp; omega]
      show some (26 + (t - 26)) = some t
      rw [show 26 + (t - 26) = t by omega]
    · split at hk
      · rename_i h
        obtain rfl : 106 = k := Option.some.inj hk
        obtain ⟨o, h1, h2⟩ := hd2 106 (by omega)
        exact ⟨o, h1, by rw [h2, h]; rfl⟩
      · cases hk
  obtain ⟨v10, hv10, g0, g2, hV, _, hP⟩ := hK2 10 (by omega)
  have e10 : Value.slice (some ⟨g2, 0, none⟩) 8 8 = v10 := Option.some.inj hV
  refine ⟨fun t => a'.tmps.getD t undef, g2, ?_, hP (.inr rfl)⟩
  obtain ⟨⟨l'⟩, d'⟩ := a'
  obtain ⟨⟨l⟩, d0⟩ := a0
  simp only [List.size_toArray] at *
  subst hd
  congr 2
  refine List.ext_getElem? fun i => ?_
  by_cases hi : i < l.length
  · obtain ⟨v, hv⟩ : ∃ v, l[i]? = some v := ⟨l[i], List.getElem?_eq_getElem hi⟩
    rw [mix_at _ _ _ 0 i v hv, Nat.zero_add]
    have hk := hK2 i hi
    by_cases h10 : i = 10
    · subst h10
      rw [e10]
      simpa using hv10
    · rw [show (i == 10) = false by simp [h10]]
      simp only [cond_false]
      by_cases h26 : 26 ≤ i ∧ i ≤ 131
      · rw [show (decide (26 ≤ i) && decide (i ≤ 131)) = true by simp [h26.1, h26.2]]
        simp only [cond_true]
        have hi' : i < l'.length := by omega
        rw [List.getElem?_eq_getElem hi']
        simp [Array.getD, hi']
      · have hw : ringWr i = none := by unfold ringWr; rw [if_neg h26, if_neg h10]
        rw [show (decide (26 ≤ i) && decide (i ≤ 131)) = false by
          cases hb : (decide (26 ≤ i) && decide (i ≤ 131)) with
          | false => rfl
          | true => exfalso; apply h26; simpa using hb]
        simp only [cond_false]
        unfold Known at hk
        rw [hw] at hk
        have hk' : (l'.toArray)[i]? = (l.toArray)[i]? := hk
        rw [List.getElem?_toArray, List.getElem?_toArray, hv] at hk'
        exact hk'
  · rw [List.getElem?_eq_none (by omega), List.getElem?_eq_none (by rw [mix_len]; omega)]

/-- The region, its entry known where it is read. -/
theorem ring_region {id : Nat} {ops : Array Oper} {Q : Exit → Act → World → Prop} {a0 : Act} {v0 w0 : World} {xs : List Value} {a b c z1 z2 z3 z4 z6 z7 z9 z10 zn : ByteArray} {A B : Nat}
    (hpre : ∀ t ∈ ([0, 1, 2, 7, 8, 9] : List Nat), a0.tmps[t]? = (ringAct a b c z1 z2 z3 z4 z6 z7 z9 z10 zn A B 0 0).tmps[t]?)
    (hok : okRegion ops ringWr a0.tmps.size = true)
    (hsz : ops.size = 107)
    (h0 : RX w0 A B v0)
    (hstep : (∀ t ∈ ([0, 1, 2, 7, 8, 9] : List Nat), a0.tmps[t]? = (ringAct a b c z1 z2 z3 z4 z6 z7 z9 z10 zn A B 0 0).tmps[t]?) → ∀ (k : Nat) (o : Oper), ops[k]? = some o → ∀ (a' : Act) (w : World), RX w0 A B w → (∀ t, Operand.tmp t ∈ o.op.operands → Known ringWr a0 (RV w0 xs a b c z1 z2 z3 z4 z6 z7 z9 z10 zn A B) t a' w) → stepUpon Tryz.prog (RX w0 A B) (RM A) (RV w0 xs a b c z1 z2 z3 z4 z6 z7 z9 z10 zn A B k) w ((execOp a'.eval o).run Tryz.prog w))
    (hn : 131 < a0.tmps.size)
    (hdst : ((List.range 107).all fun k => (ops[k]?.bind (·.dst)) == some (bif k == 106 then 10 else 26 + k)) = true)
    (hQ : ∀ f g2 w, RX w0 A B w → PairP xs w0 A w g2 → Q .normal { tmps := (mix f g2 0 a0.tmps.toList).toArray, defers := a0.defers } w) :
    (Code.region id ops true).wp Tryz.prog Q a0 v0 := by
  refine region_rel (X := RX w0 A B) (M := RM A) (R := RV w0 xs a b c z1 z2 z3 z4 z6 z7 z9 z10 zn A B) ringWr rfl hok ?_ (fun k v w1 w2 h hm => h.mono hm) ?_ (hstep hpre) (fun a' w hX hd hsz hK => by obtain ⟨f, g2, e, hP⟩ := ring_out hn hd hsz hdst hK; rw [e]; exact hQ f g2 w hX hP)
  · intro t k h
    rw [hsz]
    unfold ringWr at h
    split at h
    · cases h; omega
    · split at h
      · cases h; omega
      · cases h
  · exact ⟨⟨h0.ring.rowA, h0.ring.rowB, h0.ring.ne, h0.ring.farA⟩, ⟨h0.below.os, h0.below.tape, h0.below.output, h0.below.size, h0.below.block⟩, h0.hA⟩

end Go.Proofs.YtgkiaonakiflbaaGreatDoor
