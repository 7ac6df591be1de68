/- A region that draws its order, of any length: each operation shown once, by what is known of the values that it reads. -/
import Derived.Deep.Quiet
namespace Go.Proofs.YtgkiaonakiflbaaGreatDoor

section
variable {P : Program} {ops : Array Oper} {Q : Exit → Act → World → Prop} {X : World → Prop} {M : World → World → Prop}

/-- What one operation does: a value that R speaks of, in a world of the class. -/
def stepUpon (P : Program) (X : World → Prop) (M : World → World → Prop) (R : Value → World → Prop) (w : World) : Result Next → Prop
  | .ok (.value u) w' => X w' ∧ M w w' ∧ R u w'
  | .ok (.enter f args) w' => Calls P f args w' (fun e w'' => ∃ v, e = .returned v ∧ X w'' ∧ M w w'' ∧ R v w'')
  | _ => False

theorem wp_of_step {o : Oper} {a : Act} {w : World} {R : Value → World → Prop} {K : Act → World → Prop} (h : stepUpon P X M R w ((execOp a.eval o).run P w)) (hK : ∀ v w', X w' → M w w' → R v w' → K (a.put o.dst v) w') : o.wp P a w K Q := by
  unfold Oper.wp
  generalize (execOp a.eval o).run P w = r at *
  cases r with
  | ok n w' =>
    cases n <;> simp only [stepUpon] at h <;> simp only [Oper.upon]
    case value u => exact hK _ _ h.1 h.2.1 h.2.2
    case enter f args => exact h.mono fun e w'' ⟨v, he, h1, h2, h3⟩ => by subst he; exact hK _ _ h1 h2 h3
  | halt x w' => simp only [stepUpon] at h

/-- What holds when the listed operations have been carried out. -/
structure Rel (ops : Array Oper) (a0 : Act) (X : World → Prop) (R : Nat → Value → World → Prop) (listed : Array Bool) (a : Act) (w : World) : Prop where
  cls : X w
  defers : a.defers = a0.defers
  size : a.tmps.size = a0.tmps.size
  old : ∀ t : Nat, (∀ (k : Nat) (o : Oper), ops[k]? = some o → o.dst = some t → listed.getD k true = false) → a.tmps[t]? = a0.tmps[t]?
  new : ∀ (k : Nat) (o : Oper) (t : Nat), ops[k]? = some o → o.dst = some t → listed.getD k true = true → ∃ v, a.tmps[t]? = some v ∧ R k v w

/-- How many are not listed. -/
def unlisted (listed : Array Bool) : Nat := (listed.toList.filter (fun b => !b)).length

theorem unlisted_set {listed : Array Bool} {i : Nat} (h : listed.getD i true = false) : unlisted (listed.setIfInBounds i true) + 1 = unlisted listed := by
  obtain ⟨l⟩ := listed
  have hi : i < l.length := by
    rcases Nat.lt_or_ge i l.length with h' | h'
    · exact h'
    · simp [Array.getD, Nat.not_lt.2 h'] at h
  have hv : l[i] = false := by simpa [Array.getD, hi] using h
  unfold unlisted
  simp only [List.setIfInBounds_toArray]
  clear h
  induction l generalizing i with
  | nil => simp at hi
  | cons b t ih =>
    cases i with
    | zero =>
      have hb : b = false := hv
      subst hb
      simp
    | succ i =>
      have := ih (i := i) (by simpa using hi) (by simpa using hv)
      simp only [List.set_cons_succ, List.filter_cons]
      split
      · simp only [List.length_cons]; omega
      · exact this

theorem wpAny_rel {a0 : Act} {R : Nat → Value → World → Prop}
    (hg : ∀ (i : Nat) (o : Oper), ops[i]? = some o → o.guard = none)
    (hacyc : ∀ (i : Nat) (o : Oper), ops[i]? = some o → ∀ e ∈ o.after, e.on < i)
    (hdst : ∀ (i j : Nat) (oi oj : Oper) (t : Nat), ops[i]? = some oi → ops[j]? = some oj → oi.dst = some t → oj.dst = some t → i = j)
    (hin : ∀ (i : Nat) (o : Oper) (t : Nat), ops[i]? = some o → o.dst = some t → t < a0.tmps.size)
    (hM : ∀ k v w w', R k v w → M w w' → R k v w')
    (hstep : ∀ (i : Nat) (o : Oper) (listed : Array Bool) (a : Act) (w : World), ops[i]? = some o → Rel ops a0 X R listed a w → (∀ e ∈ o.after, Region.binds .any e = true → listed.getD e.on false = true) → stepUpon P X M (R i) w ((execOp a.eval o).run P w))
    (hQ : ∀ a w, Rel ops a0 X R (Array.replicate ops.size true) a w → Q .normal a w) :
    ∀ (fuel : Nat) (listed : Array Bool) (a : Act) (w : World), listed.size = ops.size → unlisted listed ≤ fuel → Rel ops a0 X R listed a w → wpAny P .any ops Q fuel listed a w := by
  have done : ∀ (listed : Array Bool) (a : Act) (w : World), listed.size = ops.size → Region.ready .any ops listed = [] → Rel ops a0 X R listed a w → Q .normal a w := by
    intro listed a w hsz hr hrel
    have all : ∀ n i, i < n → i < ops.size → listed.getD i true = true := by
      intro n
      induction n with
      | zero => intro i hi; omega
      | succ n ih =>
        intro i hi hlt
        by_cases hin' : i < n
        · exact ih i hin' hlt
        · cases hl : listed.getD i true with
          | true => rfl
          | false =>
            exfalso
            have : i ∈ Region.ready .any ops listed := by
              unfold Region.ready
              rw [List.mem_filter]
              refine ⟨List.mem_range.2 hlt, ?_⟩
              obtain ⟨o, ho⟩ : ∃ o, ops[i]? = some o := ⟨ops[i], Array.getElem?_eq_getElem hlt⟩
              rw [hl, ho]
              simp only [Option.map_some, Option.getD_some, Bool.not_false, Bool.true_and]
              rw [Array.all_eq_true']
              intro e he
              have h1 := hacyc i o ho e he
              have h2 := ih e.on (by omega) (by omega)
              have h3 : listed.getD e.on false = true := by
                have h4 : e.on < listed.size := by omega
                simp only [Array.getD, h4, dite_true] at h2 ⊢
                exact h2
              rw [h3]; simp
            rw [hr] at this
            cases this
    refine hQ a w ⟨hrel.cls, hrel.defers, hrel.size, fun t ht => ?_, fun k o t hk hd _ => ?_⟩
    · refine hrel.old t (fun k o hk hd => ?_)
      have h1 := ht k o hk hd
      have h2 : k < ops.size := (Array.getElem?_eq_some_iff.1 hk).1
      simp [Array.getD, h2] at h1
    · have h2 : k < ops.size := (Array.getElem?_eq_some_iff.1 hk).1
      exact hrel.new k o t hk hd (all (k + 1) k (by omega) h2)
  intro fuel
  induction fuel with
  | zero =>
    intro listed a w hsz hf hrel
    have hr : Region.ready .any ops listed = [] := by
      rw [List.eq_nil_iff_forall_not_mem]
      intro i hi
      unfold Region.ready at hi
      rw [List.mem_filter] at hi
      have hl : listed.getD i true = false := by
        cases h : listed.getD i true with
        | true => rw [h] at hi; simp at hi
        | false => rfl
      have := unlisted_set hl
      omega
    exact ⟨hr, done listed a w hsz hr hrel⟩
  | succ fuel ih =>
    intro listed a w hsz hf hrel
    refine ⟨fun hr => done listed a w hsz hr hrel, fun i hi => ?_⟩
    unfold Region.ready at hi
    rw [List.mem_filter] at hi
    have hlt : i < ops.size := List.mem_range.1 hi.1
    obtain ⟨o, ho⟩ : ∃ o, ops[i]? = some o := ⟨ops[i], Array.getElem?_eq_getElem hlt⟩
    have h2 := hi.2
    rw [ho] at h2
    simp only [Option.map_some, Option.getD_some, Bool.and_eq_true, Bool.not_eq_true'] at h2
    obtain ⟨hl, hall⟩ := h2
    rw [Array.all_eq_true'] at hall
    have hdeps : ∀ e ∈ o.after, Region.binds .any e = true → listed.getD e.on false = true := fun e he hb => by
      have := hall e he
      rw [hb] at this
      simpa using this
    unfold wpOp
    simp only [ho]
    have hw : Region.wanted o (yielded ops a.tmps) = true := by simp [Region.wanted, hg i o ho]
    rw [if_pos hw]
    refine .inl (wp_of_step (hstep i o listed a w ho hrel hdeps) fun v w' hX hm hR => ?_)
    refine ih _ _ _ (by simpa using hsz) (by have := unlisted_set hl; omega) ?_
    have hget : ∀ k, k ≠ i → (listed.setIfInBounds i true).getD k true = listed.getD k true := fun k hk => by
      simp only [Array.getD, Array.size_setIfInBounds]
      split
      · exact Array.getElem_setIfInBounds_ne _ (Ne.symm hk)
      · rfl
    have hgeti : (listed.setIfInBounds i true).getD i true = true := by
      simp only [Array.getD, Array.size_setIfInBounds]
      split
      · simp
      · rfl
    refine ⟨hX, ?_, ?_, fun t ht => ?_, fun k ok t hk hd hlk => ?_⟩
    · unfold Act.put; split <;> exact hrel.defers
    · unfold Act.put; split
      · simpa using hrel.size
      · exact hrel.size
    · have hne : o.dst ≠ some t := fun e => by
        have := ht i o ho e
        rw [hgeti] at this
        cases this
      have h3 := hrel.old t (fun k ok hk hd => by
        by_cases hki : k = i
        · subst hki
          rw [ho] at hk
          cases hk
          exact absurd hd hne
        · have := ht k ok hk hd
          rwa [hget k hki] at this)
      unfold Act.put
      split
      · rename_i d hd
        have : d ≠ t := fun e => hne (by rw [hd, e])
        simp only [Array.getElem?_setIfInBounds, this, if_false]
        exact h3
      · exact h3
    · by_cases hki : k = i
      · subst hki
        rw [ho] at hk
        cases hk
        refine ⟨v, ?_, hR⟩
        have := hin k o t ho hd
        unfold Act.put
        rw [hd]
        simp only [Array.getElem?_setIfInBounds, if_true]
        rw [if_pos (by rw [hrel.size]; exact this)]
      · rw [hget k hki] at hlk
        obtain ⟨v', hv', hR'⟩ := hrel.new k ok t hk hd hlk
        refine ⟨v', ?_, hM _ _ _ _ hR' hm⟩
        unfold Act.put
        split
        · rename_i d hd'
          have : d ≠ t := fun e => hki (hdst k i ok o t hk ho hd (by rw [hd', e]))
          simp only [Array.getElem?_setIfInBounds, this, if_false]
          exact hv'
        · exact hv'

/-- What is known of a temporary: its writer's word, or that it is as it was. -/
def Known (wr : Nat → Option Nat) (a0 : Act) (R : Nat → Value → World → Prop) (t : Nat) (a : Act) (w : World) : Prop :=
  match wr t with
  | some k => ∃ v, a.tmps[t]? = some v ∧ R k v w
  | none => a.tmps[t]? = a0.tmps[t]?

/-- The closed facts that a region must meet, as one Bool. -/
def okRegion (ops : Array Oper) (wr : Nat → Option Nat) (n : Nat) : Bool :=
  (List.range ops.size).all fun i => match ops[i]? with
    | none => false
    | some o => o.guard.isNone && (o.after.toList.all fun e => decide (e.on < i)) &&
      (match o.dst with
       | some t => decide (t < n) && (wr t == some i)
       | none => true) &&
      (o.op.operands.toList.all fun x => match x with
        | .tmp t => (match wr t with
          | some k => (o.after.toList.any fun e => (e.on == k) && Region.binds .any e) && (((ops[k]?).map (·.dst)) == some (some t))
          | none => true)
        | _ => true)

theorem region_rel {id : Nat} {a0 : Act} {w0 : World} {R : Nat → Value → World → Prop} (wr : Nat → Option Nat) (hm : P.follows .mixedOrders = true)
    (hok : okRegion ops wr a0.tmps.size = true)
    (hwr : ∀ t k, wr t = some k → k < ops.size)
    (hM : ∀ k v w w', R k v w → M w w' → R k v w')
    (h0 : X { w0 with drawn := w0.drawn + 1 })
    (hstep : ∀ (k : Nat) (o : Oper), ops[k]? = some o → ∀ (a : Act) (w : World), X w → (∀ t, Operand.tmp t ∈ o.op.operands → Known wr a0 R t a w) → stepUpon P X M (R k) w ((execOp a.eval o).run P w))
    (hQ : ∀ a w, X w → a.defers = a0.defers → a.tmps.size = a0.tmps.size → (∀ t, t < a0.tmps.size → (∀ k, wr t = some k → ∃ o, ops[k]? = some o ∧ o.dst = some t) → Known wr a0 R t a w) → Q .normal a w) :
    (Code.region id ops true).wp P Q a0 w0 := by
  have hall : ∀ (i : Nat) (o : Oper), ops[i]? = some o → o.guard = none ∧ (∀ e ∈ o.after, e.on < i) ∧ (∀ t, o.dst = some t → t < a0.tmps.size ∧ wr t = some i) ∧
      (∀ t, Operand.tmp t ∈ o.op.operands → ∀ k, wr t = some k → (∃ e ∈ o.after, Region.binds .any e = true ∧ e.on = k) ∧ ∃ ok, ops[k]? = some ok ∧ ok.dst = some t) := by
    intro i o ho
    have hi : i < ops.size := (Array.getElem?_eq_some_iff.1 ho).1
    have h1 := (List.all_eq_true.1 hok) i (List.mem_range.2 hi)
    rw [ho] at h1
    simp only [Bool.and_eq_true] at h1
    obtain ⟨⟨⟨h2, h3⟩, h4⟩, h5⟩ := h1
    refine ⟨by simpa using h2, fun e he => ?_, fun t ht => ?_, fun t ht k hk => ?_⟩
    · have := List.all_eq_true.1 h3 e (by simpa using he)
      simpa using this
    · rw [ht] at h4
      simpa using h4
    · have := List.all_eq_true.1 h5 (.tmp t) (by simpa using ht)
      simp only [hk, Bool.and_eq_true, List.any_eq_true, beq_iff_eq] at this
      obtain ⟨⟨e, he, he1, he2⟩, h7⟩ := this
      refine ⟨⟨e, by simpa using he, he2, he1⟩, ?_⟩
      cases hk2 : ops[k]? with
      | none => rw [hk2] at h7; cases h7
      | some ok =>
        rw [hk2] at h7
        exact ⟨ok, rfl, by simpa using h7⟩
  refine wp_region_any hm (wpAny_rel (X := X) (M := M) (R := R) (a0 := a0) (fun i o ho => (hall i o ho).1) (fun i o ho => (hall i o ho).2.1) ?_ (fun i o t ho hd => ((hall i o ho).2.2.1 t hd).1) hM ?_ ?_ ops.size _ a0 _ (by simp) ?_ ?_)
  · intro i j oi oj t hi hj hdi hdj
    have h1 := ((hall i oi hi).2.2.1 t hdi).2
    have h2 := ((hall j oj hj).2.2.1 t hdj).2
    rw [h1] at h2
    exact Option.some.inj h2
  · intro i o listed a w ho hrel hdeps
    refine hstep i o ho a w hrel.cls fun t ht => ?_
    unfold Known
    cases hw : wr t with
    | none =>
      refine hrel.old t fun k ok hk hd => ?_
      have := ((hall k ok hk).2.2.1 t hd).2
      rw [hw] at this
      cases this
    | some k =>
      obtain ⟨⟨e, he, hb, rfl⟩, ok, hok1, hok2⟩ := (hall i o ho).2.2.2 t ht k hw
      have h9 := hdeps e he hb
      refine hrel.new e.on ok t hok1 hok2 ?_
      simp only [Array.getD] at h9 ⊢
      split at h9
      · rename_i h10; rw [dif_pos h10]; exact h9
      · cases h9
  · intro a w hrel
    refine hQ a w hrel.cls hrel.defers hrel.size fun t _ hex => ?_
    unfold Known
    cases hw : wr t with
    | none =>
      refine hrel.old t fun k ok hk hd => ?_
      have := ((hall k ok hk).2.2.1 t hd).2
      rw [hw] at this
      cases this
    | some k =>
      obtain ⟨o, ho, hd⟩ := hex k hw
      refine hrel.new k o t ho hd ?_
      have h2 : k < ops.size := hwr t k hw
      simp [Array.getD, h2]
  · unfold unlisted
    simp only [Array.toList_replicate]
    refine Nat.le_trans (List.length_filter_le _ _) ?_
    simp
  · refine ⟨h0, rfl, rfl, fun _ _ => rfl, fun k o t hk hd hl => ?_⟩
    have h2 : k < ops.size := (Array.getElem?_eq_some_iff.1 hk).1
    simp [Array.getD, h2] at hl

/-- A word on each operation of a list, with its index. -/
def Steps (step : Nat → Oper → Prop) : Nat → List Oper → Prop
  | _, [] => True
  | k, o :: r => step k o ∧ Steps step (k + 1) r
theorem Steps.cons {step : Nat → Oper → Prop} {k : Nat} {o : Oper} {r : List Oper} (h : step k o) (hr : Steps step (k + 1) r) : Steps step k (o :: r) := ⟨h, hr⟩
theorem Steps.nil {step : Nat → Oper → Prop} {k : Nat} : Steps step k [] := trivial
theorem Steps.get {step : Nat → Oper → Prop} {l : List Oper} : ∀ {k : Nat}, Steps step k l → ∀ (i : Nat) (o : Oper), l[i]? = some o → step (k + i) o := by
  induction l with
  | nil => intro k h i o ho; simp at ho
  | cons x t ih =>
    intro k h i o ho
    unfold Steps at h
    cases i with
    | zero =>
      rw [List.getElem?_cons_zero] at ho
      obtain rfl : x = o := Option.some.inj ho
      exact h.1
    | succ i =>
      rw [List.getElem?_cons_succ] at ho
      have := ih h.2 i o ho
      rw [show k + (i + 1) = k + 1 + i by omega]; exact this
theorem steps_all {step : Nat → Oper → Prop} {l : List Oper} (h : Steps step 0 l) (k : Nat) (o : Oper) (ho : l.toArray[k]? = some o) : step k o := by
  rw [List.getElem?_toArray] at ho
  have := h.get k o ho
  rwa [Nat.zero_add] at this

end

end Go.Proofs.YtgkiaonakiflbaaGreatDoor
