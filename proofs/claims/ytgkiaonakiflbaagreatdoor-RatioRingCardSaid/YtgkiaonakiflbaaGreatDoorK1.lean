/- K1: the texts Num Base Libc Check W1 Words, joined. -/
import Derived.Test.YtgkiaonakiflbaaGreatDoorShelf
import Derived.Lib.ItoaNum
import Derived.WalkKit
import Derived.OwnWalk
import Derived.Below
import Derived.Deep.Draws
import Derived.Deep.QuietTactic
import Derived.BigQuiet
import Derived.Deep.LoopGhost
import Derived.Deep.DeepCutAuto
import Derived.Deep.CutBlock
import Derived.Deep.AppendLies
import Derived.Lib.Hide
import Derived.Lib.LaidTab
import Derived.Lib.AppendStr
import Derived.Laws.Rows
import Derived.Outline
import Derived.WalkLawsBesides
import Derived.WalkSpells
import Derived.Lib.AtoiErrMem
import Derived.Lib.Atoi
/- Decimal texts and the integers they stand for: plain lemmas, no program in sight. -/
namespace Go.Proofs.YtgkiaonakiflbaaGreatDoor
open Go.Lib

abbrev Bytes := List UInt8

/-- A decimal digit. -/
def isDig (c : UInt8) : Bool := decide (48 ≤ c.toNat) && decide (c.toNat ≤ 57)

/-- A text without a minus sign in front. -/
def body : Bytes → Bytes
  | [] => []
  | c :: t => if c = 45 then t else c :: t

/-- The value of a digit. -/
@[irreducible] def digv (c : UInt8) : Nat := c.toNat - 48
theorem digv_eq (c : UInt8) : digv c = c.toNat - 48 := by unfold digv; rfl

/-- The number that digits stand for, behind others. -/
def dvalFrom (acc : Nat) (s : Bytes) : Nat := s.foldl (fun a c => 10 * a + digv c) acc

theorem dvalFrom_nil (acc : Nat) : dvalFrom acc [] = acc := rfl
theorem dvalFrom_cons (acc : Nat) (c : UInt8) (s : Bytes) : dvalFrom acc (c :: s) = dvalFrom (10 * acc + digv c) s := rfl

def dval (s : Bytes) : Nat := dvalFrom 0 s

/-- Digits without zeros in front. -/
def isMag (d : Bytes) : Bool := !d.isEmpty && d.all isDig && (d.head? != some 48 || d.length == 1)

/-- A canonical integer. -/
def isNum (s : Bytes) : Bool := isMag (body s) && !(s.head? == some 45 && (body s).head? == some 48)

def num (s : Bytes) : Int := if s.head? = some 45 then -(dval (body s) : Int) else (dval s : Int)

theorem isDig_iff (c : UInt8) : isDig c = true ↔ 48 ≤ c.toNat ∧ c.toNat ≤ 57 := by
  simp [isDig]

theorem dvalFrom_append (s t : Bytes) : ∀ acc, dvalFrom acc (s ++ t) = dvalFrom (dvalFrom acc s) t := by
  intro acc
  unfold dvalFrom
  rw [List.foldl_append]

theorem dvalFrom_eq (s : Bytes) : ∀ acc, dvalFrom acc s = acc * 10 ^ s.length + dvalFrom 0 s := by
  induction s with
  | nil => intro acc; simp [dvalFrom_nil]
  | cons c s ih =>
    intro acc
    rw [dvalFrom_cons, dvalFrom_cons, List.length_cons]
    rw [ih (10 * acc + digv c), ih (10 * 0 + digv c)]
    rw [show 10 ^ (s.length + 1) = 10 ^ s.length * 10 from Nat.pow_succ ..]
    generalize 10 ^ s.length = p
    generalize digv c = q
    generalize dvalFrom 0 s = d
    grind

theorem dval_append (s t : Bytes) : dval (s ++ t) = dval s * 10 ^ t.length + dval t := by
  unfold dval
  rw [dvalFrom_append, dvalFrom_eq]

theorem dval_snoc (s : Bytes) (c : UInt8) : dval (s ++ [c]) = 10 * dval s + digv c := by
  rw [dval_append]; simp [dval, dvalFrom_nil, dvalFrom_cons]; omega

theorem dval_nil : dval [] = 0 := rfl

theorem dval_lt (s : Bytes) (h : ∀ c ∈ s, isDig c = true) : dval s < 10 ^ s.length := by
  induction s with
  | nil => simp [dval, dvalFrom_nil]
  | cons c s ih =>
    have h1 := ih (fun x hx => h x (List.mem_cons_of_mem _ hx))
    have hc := (isDig_iff c).1 (h c (List.mem_cons_self ..))
    rw [show c :: s = [c] ++ s from rfl, dval_append]
    have e : dval [c] = digv c := by simp [dval, dvalFrom_nil, dvalFrom_cons]
    rw [e, List.length_append, Nat.pow_add]
    simp only [List.length_cons, List.length_nil]
    have h2 : digv c * 10 ^ s.length ≤ 9 * 10 ^ s.length := Nat.mul_le_mul_right _ (by rw [digv_eq]; omega)
    omega

theorem ofNat_toNat_dig (n : Nat) (h : n < 10) : (UInt8.ofNat (48 + n)).toNat = 48 + n := by
  rw [UInt8.toNat_ofNat']; omega

theorem isDig_ofNat (n : Nat) (h : n < 10) : isDig (UInt8.ofNat (48 + n)) = true := by
  rw [isDig_iff, ofNat_toNat_dig n h]; omega

theorem dval_decDigits (n : Nat) : dval (decDigits n) = n := by
  induction n using Nat.strongRecOn with
  | _ n ih =>
    by_cases h : n < 10
    · rw [decDigits, dif_pos h]
      simp only [dval, dvalFrom_nil, dvalFrom_cons, digv_eq]
      rw [ofNat_toNat_dig n h]; omega
    · rw [decDigits, dif_neg h, dval_snoc, ih (n / 10) (by omega), digv_eq, ofNat_toNat_dig _ (by omega)]; omega

theorem decDigits_ne_nil (n : Nat) : decDigits n ≠ [] := by
  intro h
  have := decDigits_length n
  have := nDigits_pos n
  rw [h] at *
  simp at *
  omega

theorem decDigits_all (n : Nat) : ∀ c ∈ decDigits n, isDig c = true := by
  induction n using Nat.strongRecOn with
  | _ n ih =>
    by_cases h : n < 10
    · rw [decDigits, dif_pos h]
      intro c hc
      rw [List.mem_singleton] at hc
      rw [hc]; exact isDig_ofNat n h
    · rw [decDigits, dif_neg h]
      intro c hc
      rcases List.mem_append.1 hc with hc | hc
      · exact ih (n / 10) (by omega) c hc
      · rw [List.mem_singleton] at hc
        rw [hc]; exact isDig_ofNat _ (by omega)

theorem head_append {s t : Bytes} (h : s ≠ []) : (s ++ t).head? = s.head? := by
  cases s with
  | nil => exact absurd rfl h
  | cons c s => rfl

theorem decDigits_head (n : Nat) (h : 0 < n) : (decDigits n).head? ≠ some 48 := by
  induction n using Nat.strongRecOn with
  | _ n ih =>
    by_cases h10 : n < 10
    · rw [decDigits, dif_pos h10]
      simp only [List.head?_cons, ne_eq, Option.some.injEq]
      intro e
      have := congrArg UInt8.toNat e
      rw [ofNat_toNat_dig n h10] at this
      have h48 : (48 : UInt8).toNat = 48 := rfl
      omega
    · rw [decDigits, dif_neg h10]
      have hne := decDigits_ne_nil (n / 10)
      rw [head_append hne]
      exact ih (n / 10) (by omega) (by omega)

/-- Digits that do not begin with 0 are those of their number. -/
theorem decDigits_dval (d : Bytes) (hall : ∀ c ∈ d, isDig c = true) (hne : d ≠ []) (hz : d.head? ≠ some 48 ∨ d.length = 1) : decDigits (dval d) = d := by
  induction hn : d.length generalizing d with
  | zero => exact absurd (List.eq_nil_of_length_eq_zero hn) hne
  | succ k ih =>
    obtain ⟨s, c, rfl⟩ : ∃ s c, d = s ++ [c] := ⟨d.dropLast, d.getLast hne, (List.dropLast_concat_getLast hne).symm⟩
    have hc := (isDig_iff c).1 (hall c (by simp))
    by_cases hs : s = []
    · subst hs
      have e : dval ([] ++ [c]) = digv c := by simp [dval, dvalFrom_nil, dvalFrom_cons]
      have hd := digv_eq c
      rw [e, decDigits, dif_pos (by omega)]
      rw [show 48 + digv c = c.toNat by omega]
      simp
    · have hsl : s.length = k := by simp at hn; exact hn
      have hk : 0 < k := by
        have := List.length_pos_iff.2 hs
        omega
      have hh : s.head? ≠ some 48 := by
        rcases hz with hz | hz
        · rwa [head_append hs] at hz
        · rw [List.length_append, List.length_singleton] at hz; omega
      have ih' := ih s (fun x hx => hall x (List.mem_append_left _ hx)) hs (.inl hh) hsl
      have hpos : 0 < dval s := by
        rcases Nat.eq_zero_or_pos (dval s) with h0 | h0
        · rw [h0] at ih'
          rw [decDigits, dif_pos (by omega)] at ih'
          rw [← ih'] at hh
          exact absurd rfl hh
        · exact h0
      have hd := digv_eq c
      rw [dval_snoc, decDigits, dif_neg (by omega)]
      rw [show (10 * dval s + digv c) / 10 = dval s by omega, ih']
      rw [show 48 + (10 * dval s + digv c) % 10 = c.toNat by omega]
      simp

theorem isMag_iff (d : Bytes) : isMag d = true ↔ d ≠ [] ∧ (∀ c ∈ d, isDig c = true) ∧ (d.head? ≠ some 48 ∨ d.length = 1) := by
  unfold isMag
  simp only [Bool.and_eq_true, Bool.or_eq_true, Bool.not_eq_true', List.isEmpty_eq_false_iff, List.all_eq_true, bne_iff_ne, beq_iff_eq]
  constructor
  · rintro ⟨⟨a, b⟩, c⟩; exact ⟨a, b, c⟩
  · rintro ⟨a, b, c⟩; exact ⟨⟨a, b⟩, c⟩

theorem isMag_decDigits (n : Nat) : isMag (decDigits n) = true := by
  rw [isMag_iff]
  refine ⟨decDigits_ne_nil n, decDigits_all n, ?_⟩
  rcases Nat.eq_zero_or_pos n with rfl | h
  · right; rw [decDigits, dif_pos (by omega)]; rfl
  · exact .inl (decDigits_head n h)

theorem decDigits_of_isMag {d : Bytes} (h : isMag d = true) : decDigits (dval d) = d := by
  obtain ⟨h1, h2, h3⟩ := (isMag_iff d).1 h
  exact decDigits_dval d h2 h1 h3

theorem head_ne_minus {d : Bytes} (hall : ∀ c ∈ d, isDig c = true) : d.head? ≠ some 45 := by
  intro h
  cases d with
  | nil => simp at h
  | cons c t =>
    simp at h
    subst h
    have := (isDig_iff 45).1 (hall 45 (by simp))
    have h45 : (45 : UInt8).toNat = 45 := rfl
    omega

theorem body_digits {d : Bytes} (h : d.head? ≠ some 45) : body d = d := by
  cases d with
  | nil => rfl
  | cons c t =>
    simp at h
    simp [body, h]

theorem body_minus (t : Bytes) : body (45 :: t) = t := by simp [body]

theorem decDigits_zero : decDigits 0 = [48] := by rw [decDigits, dif_pos (by omega)]; rfl

theorem itoa_neg {z : Int} (h : z < 0) : itoa z = 45 :: decDigits z.natAbs := by unfold itoa; rw [if_pos h]
theorem itoa_nonneg {z : Int} (h : 0 ≤ z) : itoa z = decDigits z.toNat := by unfold itoa; rw [if_neg (by omega)]
theorem itoa_nat (n : Nat) : itoa (n : Int) = decDigits n := by rw [itoa_nonneg (by omega)]; simp

theorem body_itoa (z : Int) : body (itoa z) = decDigits z.natAbs := by
  by_cases h : z < 0
  · rw [itoa_neg h, body_minus]
  · rw [itoa_nonneg (by omega), body_digits (head_ne_minus (decDigits_all _))]
    congr 1; omega

theorem itoa_head (z : Int) : (itoa z).head? = some 45 ↔ z < 0 := by
  by_cases h : z < 0
  · rw [itoa_neg h]; simp [h]
  · rw [itoa_nonneg (by omega)]
    constructor
    · intro e; exact absurd e (head_ne_minus (decDigits_all _))
    · intro e; exact absurd e h

theorem num_itoa (z : Int) : num (itoa z) = z := by
  unfold num
  by_cases h : z < 0
  · rw [if_pos ((itoa_head z).2 h), body_itoa, dval_decDigits]; omega
  · rw [if_neg (fun e => h ((itoa_head z).1 e)), itoa_nonneg (by omega), dval_decDigits]; omega

theorem isNum_itoa (z : Int) : isNum (itoa z) = true := by
  unfold isNum
  rw [body_itoa, isMag_decDigits]
  by_cases h : z < 0
  · have := decDigits_head z.natAbs (by omega)
    simp [this]
  · have : (itoa z).head? ≠ some 45 := fun e => h ((itoa_head z).1 e)
    simp [this]

theorem itoa_num {s : Bytes} (h : isNum s = true) : itoa (num s) = s := by
  unfold isNum at h
  rw [Bool.and_eq_true] at h
  obtain ⟨hm, hz⟩ := h
  have hd := decDigits_of_isMag hm
  cases s with
  | nil => simp [body, isMag] at hm
  | cons c t =>
    by_cases hc : c = 45
    · subst hc
      rw [body_minus] at hd hm hz
      have h0 : t.head? ≠ some 48 := by intro e; simp [e] at hz
      have hpos : 0 < dval t := by
        rcases Nat.eq_zero_or_pos (dval t) with h | h
        · rw [h, decDigits_zero] at hd
          rw [← hd] at h0; exact absurd rfl h0
        · exact h
      unfold num
      rw [if_pos (by rfl), body_minus, itoa_neg (by omega), show (-(dval t : Int)).natAbs = dval t by omega, hd]
    · have hb : body (c :: t) = c :: t := by simp [body, hc]
      rw [hb] at hd
      unfold num
      rw [if_neg (by simp [hc]), itoa_nat, hd]

theorem itoa_inj {x y : Int} (h : itoa x = itoa y) : x = y := by rw [← num_itoa x, h, num_itoa]

theorem itoa_ne_nil (z : Int) : itoa z ≠ [] := by
  by_cases h : z < 0
  · rw [itoa_neg h]; simp
  · rw [itoa_nonneg (by omega)]; exact decDigits_ne_nil _

/-- How many bytes an integer has without its sign. -/
def wid (z : Int) : Nat := nDigits z.natAbs

theorem body_itoa_length (z : Int) : (body (itoa z)).length = wid z := by rw [body_itoa, decDigits_length]; rfl

theorem itoa_length (z : Int) : (itoa z).length = if z < 0 then wid z + 1 else wid z := by
  by_cases h : z < 0
  · rw [itoa_neg h, if_pos h, List.length_cons, decDigits_length]; rfl
  · rw [itoa_nonneg (by omega), if_neg h, decDigits_length]; unfold wid; congr 1; omega

theorem wid_pos (z : Int) : 1 ≤ wid z := nDigits_pos _

theorem itoa_length_le (z : Int) : (itoa z).length ≤ wid z + 1 := by rw [itoa_length]; split <;> omega
theorem wid_le_length (z : Int) : wid z ≤ (itoa z).length := by rw [itoa_length]; split <;> omega

theorem nDigits_le_of_lt : ∀ (k n : Nat), 1 ≤ k → n < 10 ^ k → nDigits n ≤ k
  | 0, _, h, _ => absurd h (by omega)
  | k + 1, n, _, h => by
    by_cases h10 : n < 10
    · rw [nDigits_small h10]; omega
    · rw [nDigits_big h10]
      have hk : 1 ≤ k := by
        rcases Nat.eq_zero_or_pos k with rfl | h'
        · simp at h; omega
        · exact h'
      have := nDigits_le_of_lt k (n / 10) hk (by rw [Nat.pow_succ] at h; omega)
      omega

theorem lt_of_nDigits_le {k n : Nat} (h : nDigits n ≤ k) : n < 10 ^ k :=
  Nat.lt_of_lt_of_le (lt_pow_nDigits n) (Nat.pow_le_pow_right (by omega) h)

theorem nDigits_mono {m n : Nat} (h : m ≤ n) : nDigits m ≤ nDigits n :=
  nDigits_le_of_lt _ _ (nDigits_pos n) (Nat.lt_of_le_of_lt h (lt_pow_nDigits n))

theorem pow_le_of_nDigits {n : Nat} (h : 0 < n) : 10 ^ (nDigits n - 1) ≤ n := by
  induction n using Nat.strongRecOn with
  | _ n ih =>
    by_cases h10 : n < 10
    · rw [nDigits_small h10]; simp; omega
    · rw [nDigits_big h10]
      have := ih (n / 10) (by omega) (by omega)
      have hp := nDigits_pos (n / 10)
      rw [show nDigits (n / 10) + 1 - 1 = (nDigits (n / 10) - 1) + 1 by omega, Nat.pow_succ]
      omega

theorem lt_of_nDigits_lt {m n : Nat} (h : nDigits m < nDigits n) : m < n := by
  rcases Nat.lt_or_ge m n with h' | h'
  · exact h'
  · have := nDigits_mono h'; omega

end Go.Proofs.YtgkiaonakiflbaaGreatDoor

/- What our contracts say of the world, and small lemmas on worlds. -/
namespace Go.Proofs.YtgkiaonakiflbaaGreatDoor
open Go.RowKit

/-- What each call needs of the world: the library's table of powers of ten, and its variable MaxLen. -/
structure Env (w : World) : Prop where
  tab : Lib.TabIs Tryz.prog w "internal/strconv.uint64pow10" .u64 Lib.pow10Tab
  mx : ∃ m, w.cell? ⟨0, 0, none⟩ = some (.int .i64 m)

theorem gTab : Tryz.prog.globalNamed "internal/strconv.uint64pow10" = some 1 := by kernel_rfl

theorem Env.below {w w' : World} (h : Env w) (hb : Below w.heap.size w w') : Env w' := by
  refine ⟨?_, ?_⟩
  · have ht := h.tab
    have hc := ht.cell gTab 0 (by decide)
    have hlt := block_lt_of_cell hc
    unfold Lib.TabIs World.var? at *
    rw [gTab] at *
    simp only [Option.bind_some] at ht ⊢
    rw [hb.block _ hlt]
    exact ht
  · obtain ⟨m, hm⟩ := h.mx
    exact ⟨m, by rw [hb.cell (block_lt_of_cell hm)]; exact hm⟩

/-- A text as a value. -/
abbrev S (s : Bytes) : Value := .string ⟨s.toArray⟩

/-- A text that came in is its list of bytes. -/
theorem str_eta (s : ByteArray) : (⟨s.data.toList.toArray⟩ : ByteArray) = s := by cases s; simp

theorem below_drewN {B : Nat} {a w : World} (h : Below B a w) (n : Nat) : Below B a (w.drewN n) := ⟨h.os, h.tape, h.output, h.size, h.block⟩

theorem bcell {W w1 : World} (hb : Below W.heap.size W w1) : (∀ b o, b < W.heap.size → w1.cell? ⟨b, o, none⟩ = W.cell? ⟨b, o, none⟩) ∧ (∀ b o, b < W.heap.size → w1.frozen? ⟨b, o, none⟩ = W.frozen? ⟨b, o, none⟩) :=
  ⟨fun b o h => hb.cell (p := ⟨b, o, none⟩) h, fun b o h => hb.frozen (p := ⟨b, o, none⟩) h⟩

theorem ret_int {k : IntKind} {a b : Int} (h : a = b) : Ending.returned (.int k a) = .returned (.int k b) := by rw [h]

theorem results_tmp4 {fn : Func} {t u v x : Tmp} (h : fn.results = #[.tmp t, .tmp u, .tmp v, .tmp x]) (tmps : Array Value) (P : Program) (w : World) :
    (results fn tmps).run P w = .ok (.tuple #[tmps.getD t undef, tmps.getD u undef, tmps.getD v undef, tmps.getD x undef]) w := by simp [results, h]

end Go.Proofs.YtgkiaonakiflbaaGreatDoor

/- The library's contracts in the words of our texts. -/
namespace Go.Proofs.YtgkiaonakiflbaaGreatDoor
open Go.RowKit

/-- A value's text. -/
def Is (c : ByteArray) (l : Bytes) : Prop := c.toList = l
theorem Is.out {c : ByteArray} {l : Bytes} (h : Is c l) : c.toList = l := h
theorem Is.mk_ {c : ByteArray} {l : Bytes} (h : c.toList = l) : Is c l := h
theorem Is.data {c : ByteArray} {l : Bytes} (h : Is c l) : c.data.toList = l := by rw [← ByteArray.toList_eq]; exact h
theorem Is.self (c : ByteArray) : Is c c.toList := rfl
theorem Is.of (l : Bytes) : Is ⟨l.toArray⟩ l := by unfold Is; rw [ByteArray.toList_eq]
theorem Is.eq {c d : ByteArray} {l : Bytes} (h : Is c l) (h' : Is d l) : c = d := by
  have : c.data.toList = d.data.toList := h.data.trans h'.data.symm
  rw [← str_eta c, ← str_eta d, this]
theorem Is.size {c : ByteArray} {l : Bytes} (h : Is c l) : c.size = l.length := by
  rw [← h.data]; simp

theorem trimPrefix_minus (s : Bytes) : Lib.trimPrefix s [45] = body s := by
  unfold Lib.trimPrefix Lib.hasPrefix
  cases s with
  | nil => simp [body]
  | cons c t =>
    by_cases h : c = 45
    · subst h; simp [body, List.isPrefixOf]
    · have h2 : ¬ (45 : UInt8) = c := fun e => h e.symm
      simp [body, List.isPrefixOf, h, h2]

theorem trimMinus (s : ByteArray) (w : World) :
    Calls Tryz.prog 120 #[.string s, .string ⟨#[45]⟩] w fun e w' => ∃ d, Is d (body s.toList) ∧ e = .returned (.string d) ∧ w = w' := by
  refine (Tryz.strings_TrimPrefix _ _ _).mono ?_
  rintro e w' ⟨rfl, rfl⟩
  exact ⟨_, by rw [ByteArray.toList_eq, ← trimPrefix_minus]; exact Is.of _, rfl, rfl⟩

theorem dropWhile_nil {α : Type} (p : α → Bool) (l : List α) : l.dropWhile p = [] ↔ ∀ c ∈ l, p c = true := by
  induction l with
  | nil => simp
  | cons c t ih =>
    rw [List.dropWhile_cons]
    by_cases h : p c = true
    · rw [if_pos h, ih]; simp [h]
    · rw [if_neg h]; simp [h]

theorem dropWhile_head {α : Type} (p : α → Bool) (l : List α) (c : α) (t : List α) (h : l.dropWhile p = c :: t) : p c = false := by
  induction l with
  | nil => simp at h
  | cons d s ih =>
    rw [List.dropWhile_cons] at h
    by_cases hd : p d = true
    · rw [if_pos hd] at h; exact ih h
    · rw [if_neg hd] at h
      injection h with h1 h2
      subst h1; simpa using hd

theorem trimS_nil (l cs : Bytes) : Lib.trimS l cs = [] ↔ ∀ c ∈ l, cs.contains c = true := by
  unfold Lib.trimS Lib.trimLeftS Lib.trimRightS
  rw [dropWhile_nil]
  constructor
  · intro h
    cases hr : l.reverse.dropWhile (fun x => cs.contains x) with
    | nil =>
      rw [dropWhile_nil] at hr
      intro c hc
      exact hr c (List.mem_reverse.2 hc)
    | cons d t =>
      have hd := dropWhile_head _ _ _ _ hr
      have := h d (by rw [hr]; simp)
      rw [this] at hd
      cases hd
  · intro h
    have hr : l.reverse.dropWhile (fun x => cs.contains x) = [] := by
      rw [dropWhile_nil]; intro c hc; exact h c (List.mem_reverse.1 hc)
    rw [hr]; simp

theorem digits_contains (c : UInt8) : ([48, 49, 50, 51, 52, 53, 54, 55, 56, 57] : Bytes).contains c = isDig c := by
  rw [Bool.eq_iff_iff, isDig_iff]
  simp only [List.contains_cons, List.contains_nil, Bool.or_false, Bool.or_eq_true, beq_iff_eq]
  constructor
  · intro h
    rcases h with rfl | rfl | rfl | rfl | rfl | rfl | rfl | rfl | rfl | rfl <;> decide
  · intro h
    have e : c = UInt8.ofNat c.toNat := by simp
    rw [e]
    obtain ⟨h1, h2⟩ := h
    generalize c.toNat = n at *
    have : n = 48 ∨ n = 49 ∨ n = 50 ∨ n = 51 ∨ n = 52 ∨ n = 53 ∨ n = 54 ∨ n = 55 ∨ n = 56 ∨ n = 57 := by omega
    rcases this with rfl | rfl | rfl | rfl | rfl | rfl | rfl | rfl | rfl | rfl <;> decide

theorem trimDigits (s : ByteArray) (w : World) (hs : s.size ≤ 9223372036854775807) :
    Calls Tryz.prog 121 #[.string s, .string ⟨#[48, 49, 50, 51, 52, 53, 54, 55, 56, 57]⟩] w fun e w' =>
      ∃ d, (d.toList = [] ↔ s.toList.all isDig = true) ∧ e = .returned (.string d) ∧ Below w.heap.size w w' := by
  refine (Any.strings_Trim_laid Tryz.lays160 (by kernel_rfl) _ _ _ hs (by decide) (ascii_of_all (by decide))).mono ?_
  rintro e w' ⟨rfl, hb⟩
  refine ⟨_, ?_, rfl, hb⟩
  rw [ByteArray.toList_mk, ByteArray.toList_eq, trimS_nil, List.all_eq_true]
  constructor
  · intro h c hc
    have := h c hc
    rwa [← digits_contains]
  · intro h c hc
    have := h c hc
    rwa [← digits_contains] at this

theorem trimDigits_yes (s : ByteArray) (w : World) (hs : s.size ≤ 9223372036854775807) (h : s.toList.all isDig = true) :
    Calls Tryz.prog 121 #[.string s, .string ⟨#[48, 49, 50, 51, 52, 53, 54, 55, 56, 57]⟩] w fun e w' => e = .returned (.string ⟨#[]⟩) ∧ Below w.heap.size w w' := by
  refine (trimDigits s w hs).mono ?_
  rintro e w' ⟨d, hd, rfl, hb⟩
  have := hd.2 h
  refine ⟨?_, hb⟩
  rw [ByteArray.toList_eq] at this
  rw [← str_eta d, this]

theorem trimDigits_no (s : ByteArray) (w : World) (hs : s.size ≤ 9223372036854775807) (h : s.toList.all isDig = false) :
    Calls Tryz.prog 121 #[.string s, .string ⟨#[48, 49, 50, 51, 52, 53, 54, 55, 56, 57]⟩] w fun e w' =>
      ∃ d, d.toList.isEmpty = false ∧ e = .returned (.string d) ∧ Below w.heap.size w w' := by
  refine (trimDigits s w hs).mono ?_
  rintro e w' ⟨d, hd, rfl, hb⟩
  refine ⟨d, ?_, rfl, hb⟩
  rw [List.isEmpty_eq_false_iff]
  intro e
  rw [hd.1 e] at h
  cases h

/-- A value that is the text of an integer. -/
def IsI (c : ByteArray) (z : Int) : Prop := Is c (Lib.itoa z)
theorem IsI.is {c : ByteArray} {z : Int} (h : IsI c z) : Is c (Lib.itoa z) := h
theorem IsI.out {c : ByteArray} {z : Int} (h : IsI c z) : c.toList = Lib.itoa z := h
theorem IsI.eq {c d : ByteArray} {z : Int} (h : IsI c z) (h' : IsI d z) : c = d := Is.eq h h'
theorem IsI.of (z : Int) : IsI ⟨(Lib.itoa z).toArray⟩ z := Is.of _
theorem IsI.cast {c : ByteArray} {x y : Int} (h : IsI c x) (e : x = y) : IsI c y := e ▸ h
theorem IsI.inj {c : ByteArray} {x y : Int} (h : IsI c x) (h' : IsI c y) : x = y := itoa_inj (h.out.symm.trans h'.out)
theorem IsI.of_num {c : ByteArray} (h : isNum c.toList = true) : IsI c (num c.toList) := by
  unfold IsI Is; rw [itoa_num h]
theorem IsI.canon {c : ByteArray} {z : Int} (h : IsI c z) : isNum c.toList = true := by rw [h.out]; exact isNum_itoa z
theorem IsI.num_eq {c : ByteArray} {z : Int} (h : IsI c z) : num c.toList = z := by rw [h.out]; exact num_itoa z
theorem IsI.size {c : ByteArray} {z : Int} (h : IsI c z) : c.size = (Lib.itoa z).length := Is.size h
theorem IsI.size_le {c : ByteArray} {z : Int} (h : IsI c z) : c.size ≤ wid z + 1 := by rw [h.size]; exact itoa_length_le z
theorem IsI.wid_le {c : ByteArray} {z : Int} (h : IsI c z) : wid z ≤ c.size := by rw [h.size]; exact wid_le_length z
theorem IsI.pos {c : ByteArray} {z : Int} (h : IsI c z) : 0 < c.size := by rw [h.size]; exact List.length_pos_iff.2 (itoa_ne_nil z)
theorem IsI.ne_nil {c : ByteArray} {z : Int} (h : IsI c z) : c.toList ≠ [] := by rw [h.out]; exact itoa_ne_nil z

theorem decFrom_digits (l : Bytes) : ∀ acc, (∀ c ∈ l, isDig c = true) → Lib.decFrom acc l = some (dvalFrom acc l) := by
  induction l with
  | nil => intro acc _; rfl
  | cons c t ih =>
    intro acc h
    have hc := (isDig_iff c).1 (h c (List.mem_cons_self ..))
    unfold Lib.decFrom Lib.digitVal
    rw [if_pos hc]
    simp only
    rw [ih _ (fun x hx => h x (List.mem_cons_of_mem _ hx)), dvalFrom_cons, digv_eq, Nat.mul_comm acc 10]

theorem decNat_digits (n : Nat) : Lib.decNat (Lib.decDigits n) = some n := by
  unfold Lib.decNat
  have h := decDigits_ne_nil n
  rw [if_neg (by simp [h]), decFrom_digits _ _ (decDigits_all n)]
  exact congrArg some (dval_decDigits n)

theorem atoi_itoa (z : Int) : Lib.atoi (Lib.itoa z) = some z := by
  by_cases h : z < 0
  · rw [itoa_neg h]
    show (if ((45 : UInt8) == 45) = true then (Lib.decNat (Lib.decDigits z.natAbs)).map fun (m : Nat) => -(m : Int) else if ((45 : UInt8) == 43) = true then (Lib.decNat (Lib.decDigits z.natAbs)).map fun (m : Nat) => (m : Int) else (Lib.decNat (45 :: Lib.decDigits z.natAbs)).map fun (m : Nat) => (m : Int)) = some z
    rw [if_pos (by decide), decNat_digits]
    simp only [Option.map_some, Option.some.injEq]; omega
  · rw [itoa_nonneg (by omega)]
    have hn := decNat_digits z.toNat
    cases hd : Lib.decDigits z.toNat with
    | nil => exact absurd hd (decDigits_ne_nil _)
    | cons c t =>
      have hc := (isDig_iff c).1 (decDigits_all z.toNat c (by rw [hd]; simp))
      have h45 : (45 : UInt8).toNat = 45 := rfl
      have h43 : (43 : UInt8).toNat = 43 := rfl
      have e1 : ¬ (c == 45) = true := by
        rw [beq_iff_eq]; intro e; subst e; omega
      have e2 : ¬ (c == 43) = true := by
        rw [beq_iff_eq]; intro e; subst e; omega
      show (if (c == 45) = true then (Lib.decNat t).map fun (m : Nat) => -(m : Int) else if (c == 43) = true then (Lib.decNat t).map fun (m : Nat) => (m : Int) else (Lib.decNat (c :: t)).map fun (m : Nat) => (m : Int)) = some z
      rw [if_neg e1, if_neg e2, ← hd, hn]
      simp only [Option.map_some, Option.some.injEq]; omega

theorem atoiNum (a : ByteArray) (z : Int) (w : World) (ha : IsI a z) (hs : a.size ≤ 18) :
    Calls Tryz.prog 129 #[.string a] w fun e w' => e = .returned (.tuple #[.int .i64 z, .nilIface]) ∧ Below w.heap.size w w' := by
  refine (Tryz.strconv_Atoi _ z hs (by rw [ha.is.data, atoi_itoa]) _).mono ?_
  rintro e w' ⟨rfl, t, rfl⟩
  exact ⟨rfl, Lib.bytesWorld_below _ _ _⟩

theorem grow_below (w : World) (k : Nat) (os : Array Obj) : Below w.heap.size w (Go.Sort.grow (w.drewN k) os) :=
  ⟨rfl, rfl, rfl, by simp [World.drewN], fun i hi => by
    show ((w.drewN k).heap ++ os)[i]? = _
    rw [Array.getElem?_append, if_pos (by simpa [World.drewN] using hi)]; rfl⟩

theorem strconv_Itoa (n : Int) (h0 : -9223372036854775808 ≤ n) (h1 : n ≤ 9223372036854775807) (w : World) (hE : Env w) :
    Calls Tryz.prog 101 #[.int .i64 n] w fun e w' => ∃ c, IsI c n ∧ e = .returned (.string c) ∧ Below w.heap.size w w' := by
  refine (Tryz.strconv_Itoa n h0 h1 w hE.tab).mono ?_
  rintro e w' ⟨rfl, k, os, rfl⟩
  exact ⟨_, IsI.of n, rfl, grow_below _ _ _⟩

/-- The order of two numbers. -/
def cmpZ (x y : Int) : Int := if x < y then -1 else if y < x then 1 else 0

theorem cmpZ_add (q a b : Int) : cmpZ (q + a) (q + b) = cmpZ a b := by
  unfold cmpZ; simp only [Int.add_lt_add_iff_left]

theorem dval_cons (c : UInt8) (t : Bytes) : dval (c :: t) = digv c * 10 ^ t.length + dval t := by
  rw [show c :: t = [c] ++ t from rfl, dval_append]
  simp [dval, dvalFrom_nil, dvalFrom_cons]

theorem compareBytes_digits (a : Bytes) : ∀ b : Bytes, a.length = b.length → (∀ c ∈ a, isDig c = true) → (∀ c ∈ b, isDig c = true) →
    Lib.compareBytes a b = cmpZ (dval a) (dval b) := by
  induction a with
  | nil =>
    intro b h _ _
    have : b = [] := List.eq_nil_of_length_eq_zero h.symm
    subst this
    simp [Lib.compareBytes, cmpZ]
  | cons c s ih =>
    intro b h ha hb
    cases b with
    | nil => simp at h
    | cons d t =>
      have hl : s.length = t.length := by simpa using h
      have hc := (isDig_iff c).1 (ha c (List.mem_cons_self ..))
      have hd := (isDig_iff d).1 (hb d (List.mem_cons_self ..))
      have hs' : ∀ x ∈ s, isDig x = true := fun x hx => ha x (List.mem_cons_of_mem _ hx)
      have ht' : ∀ x ∈ t, isDig x = true := fun x hx => hb x (List.mem_cons_of_mem _ hx)
      have hs := dval_lt s hs'
      have ht := dval_lt t ht'
      rw [← hl] at ht
      unfold Lib.compareBytes
      rw [dval_cons, dval_cons, ← hl]
      have ec := digv_eq c
      have ed := digv_eq d
      generalize 10 ^ s.length = p at *
      by_cases h1 : c < d
      · rw [if_pos h1]
        have h1' := UInt8.lt_iff_toNat_lt.1 h1
        have : digv c * p + p ≤ digv d * p := by
          rw [← Nat.succ_mul]; exact Nat.mul_le_mul_right _ (by omega)
        unfold cmpZ
        rw [if_pos (by omega)]
      · rw [if_neg h1]
        by_cases h2 : d < c
        · rw [if_pos h2]
          have h2' := UInt8.lt_iff_toNat_lt.1 h2
          have : digv d * p + p ≤ digv c * p := by
            rw [← Nat.succ_mul]; exact Nat.mul_le_mul_right _ (by omega)
          unfold cmpZ
          rw [if_neg (by omega), if_pos (by omega)]
        · rw [if_neg h2, ih t hl hs' ht']
          have h1' : ¬ c.toNat < d.toNat := fun e => h1 (UInt8.lt_iff_toNat_lt.2 e)
          have h2' : ¬ d.toNat < c.toNat := fun e => h2 (UInt8.lt_iff_toNat_lt.2 e)
          have : digv c = digv d := by omega
          rw [this]
          rw [Int.natCast_add, Int.natCast_add, cmpZ_add]

/-- A value that is the digits of a number. -/
def IsM (c : ByteArray) (n : Nat) : Prop := Is c (Lib.decDigits n)
theorem IsM.is {c : ByteArray} {n : Nat} (h : IsM c n) : Is c (Lib.decDigits n) := h
theorem IsM.out {c : ByteArray} {n : Nat} (h : IsM c n) : c.toList = Lib.decDigits n := h
theorem IsM.size {c : ByteArray} {n : Nat} (h : IsM c n) : c.size = Lib.nDigits n := by rw [Is.size h, Lib.decDigits_length]

theorem strings_Compare (a b : ByteArray) (m n : Nat) (w : World) (ha : IsM a m) (hb : IsM b n) (hl : a.size = b.size) :
    Calls Tryz.prog 139 #[.string a, .string b] w fun e w' => e = .returned (.int .i64 (cmpZ m n)) ∧ w = w' := by
  refine (Tryz.strings_Compare _ _ _).mono ?_
  rintro e w' ⟨rfl, rfl⟩
  refine ⟨ret_int ?_, rfl⟩
  rw [ha.is.data, hb.is.data, compareBytes_digits _ _ (by rw [Lib.decDigits_length, Lib.decDigits_length, ← ha.size, ← hb.size, hl]) (decDigits_all _) (decDigits_all _), dval_decDigits, dval_decDigits]

end Go.Proofs.YtgkiaonakiflbaaGreatDoor

/- The contract of whole.Check. -/
namespace Go.Proofs.YtgkiaonakiflbaaGreatDoor
open Go.RowKit

/-- What Check answers: 3 for what is no canonical integer, 11 for one that is too long, else 0. -/
def chk (s : Bytes) : Int := if isNum s then if (body s).length ≤ 1024 then 0 else 11 else 3

theorem head_byte (d : ByteArray) (h : 0 < d.size) : d.toList.head? = some d[0] := by
  rw [ByteArray.toList_eq]
  cases d with
  | mk a =>
    cases a with
    | mk l =>
      cases l with
      | nil => exact absurd h (by decide)
      | cons c t => rfl

theorem head_48 {d : ByteArray} {h : 0 < d.size} (e : (d[0].toNat : Int) = 48) : d.toList.head? = some 48 := by
  rw [head_byte d h, Option.some.injEq]
  apply UInt8.toNat_inj.1
  have h48 : (48 : UInt8).toNat = 48 := rfl
  omega

theorem head_not48 {d : ByteArray} {h : 0 < d.size} (e : ¬ (d[0].toNat : Int) = 48) : d.toList.head? ≠ some 48 := by
  rw [head_byte d h]
  intro h'
  rw [Option.some.injEq] at h'
  rw [h'] at e
  exact e rfl

theorem isNum_body_nil {s : Bytes} (h : body s = []) : isNum s = false := by
  unfold isNum isMag; rw [h]; simp
theorem isNum_not_all {s : Bytes} (h : (body s).all isDig = false) : isNum s = false := by
  unfold isNum isMag; rw [h]; simp
theorem isNum_zero {s : Bytes} (h0 : (body s).head? = some 48) (hne : s ≠ [48]) : isNum s = false := by
  unfold isNum isMag
  cases s with
  | nil => simp [body] at h0
  | cons c t =>
    by_cases hc : c = 45
    · subst hc
      rw [body_minus] at h0 ⊢
      simp [h0]
    · have hb : body (c :: t) = c :: t := by simp [body, hc]
      rw [hb] at h0 ⊢
      simp only [List.head?_cons, Option.some.injEq] at h0
      subst h0
      have ht : t ≠ [] := fun e => hne (by rw [e])
      simp [ht]
theorem isNum_yes {s : Bytes} (h1 : body s ≠ []) (h2 : (body s).all isDig = true) (h3 : (body s).head? ≠ some 48 ∨ s = [48]) : isNum s = true := by
  unfold isNum isMag
  rcases h3 with h3 | h3
  · simp only [Bool.and_eq_true, h2, Bool.not_eq_true', List.isEmpty_eq_false_iff]
    refine ⟨⟨⟨h1, trivial⟩, ?_⟩, ?_⟩
    · simp [h3]
    · simp [h3]
  · subst h3; decide

theorem chk_form {s : Bytes} (h : isNum s = false) : chk s = 3 := by unfold chk; simp [h]
theorem chk_large {s : Bytes} (h : isNum s = true) (h' : 1024 < (body s).length) : chk s = 11 := by
  unfold chk; rw [if_pos h, if_neg (by omega)]
theorem chk_ok {s : Bytes} (h : isNum s = true) (h' : (body s).length ≤ 1024) : chk s = 0 := by
  unfold chk; rw [if_pos h, if_pos h']

theorem body_le (s : Bytes) : (body s).length ≤ s.length := by
  cases s with
  | nil => simp [body]
  | cons c t =>
    by_cases h : c = 45
    · subst h; rw [body_minus]; simp
    · simp [body, h]

theorem isEmpty_no {d : ByteArray} {l : Bytes} (h : Is d l) (hl : l ≠ []) : d.toList.isEmpty = false := by
  rw [h.out, List.isEmpty_eq_false_iff]; exact hl
theorem isEmpty_yes {d : ByteArray} {l : Bytes} (h : Is d l) (hl : l = []) : d.toList.isEmpty = true := by
  rw [h.out, hl]; rfl
theorem pos_of {d : ByteArray} {l : Bytes} (h : Is d l) (hl : l ≠ []) : 0 < d.size := by
  rw [h.size]; exact List.length_pos_iff.2 hl
theorem toList_length (s : ByteArray) : s.toList.length = s.size := by rw [ByteArray.toList_eq]; simp

set_option maxHeartbeats 400000 in
theorem whole_Check (s : ByteArray) (w : World) (hs : s.size ≤ 140737488351232) :
    Calls Tryz.prog 83 #[.string s] w fun e w' => e = .returned (.int .i64 (chk s.toList)) ∧ Below w.heap.size w w' := by
  have hbl : (body s.toList).length ≤ 140737488351232 := Nat.le_trans (body_le _) (by rw [toList_length]; exact hs)
  by_cases h1 : body s.toList = []
  · go_enter Tryz.func83, Tryz.ntmps83
    go_wp2_with (go_at_call 120; refine (trimMinus _ _).mono ?_; rintro e w' ⟨d, hd, rfl, rfl⟩; have g1 := isEmpty_yes hd h1)
    go_ret
    exact ⟨ret_int (chk_form (isNum_body_nil h1)).symm, Below.refl _ _⟩
  · by_cases h2 : (body s.toList).all isDig = true
    · go_enter Tryz.func83, Tryz.ntmps83
      go_wp2_with (first | (go_at_call 120; refine (trimMinus _ _).mono ?_; rintro e w' ⟨d, hd, rfl, rfl⟩; have g1 := isEmpty_no hd h1; have g0 := pos_of hd h1; have g3 : d.size ≤ 9223372036854775807 := (by rw [hd.size]; omega)) | (go_at_call 121; refine (trimDigits_yes _ _ (by assumption) (by rw [hd.out]; exact h2)).mono ?_; rintro e w' ⟨rfl, hb⟩))
      · go_ret
        exact ⟨ret_int (chk_form (isNum_zero (by rw [← hd.out]; exact head_48 ‹_›) (by simpa using ‹(!s.toList == [48]) = true›))).symm, hb⟩
      · go_ret
        exact ⟨ret_int (chk_large (isNum_yes h1 h2 (.inr (by simpa using ‹(!s.toList == [48]) = false›))) (by have := hd.size; omega)).symm, hb⟩
      · go_ret
        exact ⟨ret_int (chk_ok (isNum_yes h1 h2 (.inr (by simpa using ‹(!s.toList == [48]) = false›))) (by have := hd.size; omega)).symm, hb⟩
      · go_ret
        exact ⟨ret_int (chk_large (isNum_yes h1 h2 (.inl (by rw [← hd.out]; exact head_not48 ‹_›))) (by have := hd.size; omega)).symm, hb⟩
      · go_ret
        exact ⟨ret_int (chk_ok (isNum_yes h1 h2 (.inl (by rw [← hd.out]; exact head_not48 ‹_›))) (by have := hd.size; omega)).symm, hb⟩
    · have h2' : (body s.toList).all isDig = false := by simpa using h2
      go_enter Tryz.func83, Tryz.ntmps83
      go_wp2_with (first | (go_at_call 120; refine (trimMinus _ _).mono ?_; rintro e w' ⟨d, hd, rfl, rfl⟩; have g1 := isEmpty_no hd h1; have g0 := pos_of hd h1; have g3 : d.size ≤ 9223372036854775807 := (by rw [hd.size]; omega)) | (go_at_call 121; refine (trimDigits_no _ _ (by assumption) (by rw [hd.out]; exact h2')).mono ?_; rintro e w' ⟨d2, hd2, rfl, hb⟩))
      go_ret
      exact ⟨ret_int (chk_form (isNum_not_all h2')).symm, hb⟩

end Go.Proofs.YtgkiaonakiflbaaGreatDoor

/- Contracts of the small functions of whole: all, sign, order, Compare, opposite, Of, small, result. -/
namespace Go.Proofs.YtgkiaonakiflbaaGreatDoor
open Go.RowKit

/-- The values that a slice holds, wherever it lies. -/
def Row (w : World) (b off : Nat) (xs : List Value) : Prop := b < w.heap.size ∧ ∀ i (h : i < xs.length), w.cell? ⟨b, off + i, none⟩ = some xs[i]
theorem Row.below {w w' : World} {b off : Nat} {xs : List Value} (h : Row w b off xs) (hb : Below w.heap.size w w') : Row w' b off xs :=
  ⟨Nat.lt_of_lt_of_le h.1 hb.size, fun i hi => (hb.cell (p := ⟨b, off + i, none⟩) h.1).trans (h.2 i hi)⟩

def strs (ss : List ByteArray) : List Value := ss.map Value.string

/-- The first error of some integers. -/
def firstErr (f : Bytes → Int) : List ByteArray → Int
  | [] => 0
  | s :: t => if f s.toList = 0 then firstErr f t else f s.toList

theorem firstErr_drop {f : Bytes → Int} {ss : List ByteArray} {k : Nat} (h : k < ss.length) :
    firstErr f (ss.drop k) = if f (ss[k]).toList = 0 then firstErr f (ss.drop (k + 1)) else f (ss[k]).toList := by
  rw [List.drop_eq_getElem_cons h, firstErr]

def Fits (ss : List ByteArray) : Prop := ∀ s ∈ ss, s.size ≤ 140737488351232

set_option maxHeartbeats 400000 in
theorem whole_all (b off n c : Nat) (ss : List ByteArray) (w : World) (hn : ss.length = n) (hn0 : 0 < n) (hmax : n ≤ 4294967296) (hf : Fits ss) (hr : Row w b off (strs ss)) :
    Calls Tryz.prog 102 #[.slice (some ⟨b, off, none⟩) n c] w fun e w' => e = .returned (.int .i64 (firstErr chk ss)) ∧ Below w.heap.size w w' := by
  have Hn := Lib.hid hn; clear hn
  go_enter Tryz.func102, Tryz.ntmps102
  go_wp2_with fail
  go_loopw [8] (fun i wr => ∃ k : Nat, k ≤ n ∧ i = .int .i64 k ∧ Below w.heap.size w wr ∧ Hid (firstErr chk ss = firstErr chk (ss.drop k))) (fun i _ => n - (intOf i).toNat)
  case atStart => exact ⟨0, by omega, rfl, Below.refl _ _, rfl⟩
  case round =>
    obtain ⟨k, hk, rfl, hb, hfe⟩ := hrel
    by_cases hlt : k < n
    · have hkl : k < ss.length := by have := Hn.out; omega
      obtain ⟨s, hs⟩ : ∃ s, s = ss[k] := ⟨_, rfl⟩
      have hcell : wr.cell? ⟨b, off + k, none⟩ = some (.string s) := by
        have := (hr.below hb).2 k (by simpa [strs] using hkl)
        rw [this, hs]; simp [strs]
      have hsz := hf s (by rw [hs]; exact List.getElem_mem hkl)
      have Hs := Lib.hid hs; clear hs
      by_cases he : chk s.toList = 0
      · have g1 : (chk s.toList != 0) = false := by simp [he]
        have He := Lib.hid he; clear he
        go_wp2_with (go_at_call 83; refine (whole_Check _ _ hsz).mono ?_; rintro e w' ⟨rfl, hb1⟩)
        go_roundw
        case rel =>
          exact ⟨k + 1, by omega, by go_num, hb.trans (hb1.mono hb.size), by
            refine Eq.trans hfe.out ?_
            rw [firstErr_drop hkl, if_pos (by rw [← Hs.out]; exact He.out)]⟩
        case measure => simp [intOf]; omega
      · have g1 : (chk s.toList != 0) = true := by simp [he]
        have He := Lib.hid he; clear he
        go_wp2_with (go_at_call 83; refine (whole_Check _ _ hsz).mono ?_; rintro e w' ⟨rfl, hb1⟩)
        go_ret
        exact ⟨ret_int (by rw [hfe.out, firstErr_drop hkl, if_neg (by rw [← Hs.out]; exact He.out), ← Hs.out]), hb.trans (hb1.mono hb.size)⟩
    · go_wp2_with fail
      go_ret
      exact ⟨ret_int (by rw [hfe.out, List.drop_eq_nil_of_le (by have := Hn.out; omega)]; rfl), hb⟩

/-- A byte in front. -/
theorem head_45 {d : ByteArray} {h : 0 < d.size} (e : (d[0].toNat : Int) = 45) : d.toList.head? = some 45 := by
  rw [head_byte d h, Option.some.injEq]
  apply UInt8.toNat_inj.1
  have h45 : (45 : UInt8).toNat = 45 := rfl
  omega
theorem head_not45 {d : ByteArray} {h : 0 < d.size} (e : ¬ (d[0].toNat : Int) = 45) : d.toList.head? ≠ some 45 := by
  rw [head_byte d h]
  intro h'
  rw [Option.some.injEq] at h'
  rw [h'] at e
  exact e rfl
theorem IsI.neg_of {a : ByteArray} {z : Int} (ha : IsI a z) {h : 0 < a.size} (e : (a[0].toNat : Int) = 45) : z < 0 := by
  have := head_45 e
  rw [ha.out, itoa_head] at this
  exact this
theorem IsI.nonneg_of {a : ByteArray} {z : Int} (ha : IsI a z) {h : 0 < a.size} (e : ¬ (a[0].toNat : Int) = 45) : 0 ≤ z := by
  have := head_not45 e
  rw [ha.out, ne_eq, itoa_head] at this
  omega
theorem itoa_zero : Lib.itoa 0 = [48] := by rw [itoa_nonneg (by omega)]; exact decDigits_zero
theorem IsI.zero_iff {a : ByteArray} {z : Int} (ha : IsI a z) : a.toList = [48] ↔ z = 0 := by
  rw [ha.out, ← itoa_zero]
  exact ⟨itoa_inj, fun e => by rw [e]⟩
theorem IsI.is_zero {a : ByteArray} {z : Int} (ha : IsI a z) (h : z = 0) : (a.toList == [48]) = true := by
  rw [beq_iff_eq]; exact ha.zero_iff.2 h
theorem IsI.not_zero {a : ByteArray} {z : Int} (ha : IsI a z) (h : z ≠ 0) : (a.toList == [48]) = false := by
  rw [beq_eq_false_iff_ne]; exact fun e => h (ha.zero_iff.1 e)
theorem decDigits_one : Lib.decDigits 1 = [49] := by rw [Lib.decDigits, dif_pos (by omega)]; rfl
theorem itoa_one : Lib.itoa 1 = [49] := by rw [itoa_nonneg (by omega)]; exact decDigits_one
theorem IsI.one_iff {a : ByteArray} {z : Int} (ha : IsI a z) : a.toList = [49] ↔ z = 1 := by
  rw [ha.out, ← itoa_one]
  exact ⟨itoa_inj, fun e => by rw [e]⟩
theorem IsI.is_one {a : ByteArray} {z : Int} (ha : IsI a z) (h : z = 1) : (a.toList == [49]) = true := by
  rw [beq_iff_eq]; exact ha.one_iff.2 h
theorem IsI.not_one {a : ByteArray} {z : Int} (ha : IsI a z) (h : z ≠ 1) : (a.toList == [49]) = false := by
  rw [beq_eq_false_iff_ne]; exact fun e => h (ha.one_iff.1 e)

/-- The sign of a number. -/
def sgn (z : Int) : Int := if z < 0 then -1 else if z = 0 then 0 else 1
theorem sgn_neg {z : Int} (h : z < 0) : sgn z = -1 := by unfold sgn; rw [if_pos h]
theorem sgn_zero {z : Int} (h : z = 0) : sgn z = 0 := by unfold sgn; rw [if_neg (by omega), if_pos h]
theorem sgn_pos {z : Int} (h : 0 < z) : sgn z = 1 := by unfold sgn; rw [if_neg (by omega), if_neg (by omega)]

theorem whole_sign (a : ByteArray) (z : Int) (w : World) (ha : IsI a z) :
    Calls Tryz.prog 118 #[.string a] w fun e w' => e = .returned (.int .i64 (sgn z)) ∧ w = w' := by
  have hp := ha.pos
  by_cases h0 : z = 0
  · have g := ha.is_zero h0
    have H0 := Lib.hid h0; clear h0
    go_enter Tryz.func118, Tryz.ntmps118
    go_wp2
    go_ret
    exact ⟨ret_int (sgn_zero H0.out).symm, rfl⟩
  · have g := ha.not_zero h0
    go_enter Tryz.func118, Tryz.ntmps118
    go_wp2
    · go_ret
      exact ⟨ret_int (sgn_neg (ha.neg_of (by simpa using ‹(_ == (45 : Int)) = true›))).symm, rfl⟩
    · have := ha.nonneg_of (by simpa using ‹(_ == (45 : Int)) = false›)
      go_ret
      exact ⟨ret_int (sgn_pos (by omega)).symm, rfl⟩

/-- The order of digits. -/
theorem whole_order (a b : ByteArray) (m n : Nat) (w : World) (ha : IsM a m) (hb : IsM b n) (_h1 : a.size ≤ 140737488351232) (_h2 : b.size ≤ 140737488351232) :
    Calls Tryz.prog 119 #[.string a, .string b] w fun e w' => e = .returned (.int .i64 (cmpZ m n)) ∧ w = w' := by
  have e1 := ha.size
  have e2 := hb.size
  by_cases h : a.size = b.size
  · have g : ((a.size : Int) != (b.size : Int)) = false := by simp [h]
    have H := Lib.hid h; clear h
    have E1 := Lib.hid e1; have E2 := Lib.hid e2; clear e1 e2
    go_enter Tryz.func119, Tryz.ntmps119
    go_wp2_with (go_at_call 139; refine (strings_Compare a b m n _ ha hb H.out).mono ?_; rintro e w' ⟨rfl, rfl⟩)
    go_ret
    exact ⟨rfl, rfl⟩
  · have g : ((a.size : Int) != (b.size : Int)) = true := by simp; omega
    have E1 := Lib.hid e1; have E2 := Lib.hid e2; clear e1 e2
    go_enter Tryz.func119, Tryz.ntmps119
    go_wp2
    · have hl := lt_of_nDigits_lt (show Lib.nDigits m < Lib.nDigits n by have := E1.out; have := E2.out; omega)
      go_ret
      exact ⟨ret_int (by unfold cmpZ; rw [if_pos (by omega)]), rfl⟩
    · have hl := lt_of_nDigits_lt (show Lib.nDigits n < Lib.nDigits m by have := E1.out; have := E2.out; omega)
      go_ret
      exact ⟨ret_int (by unfold cmpZ; rw [if_neg (by omega), if_pos (by omega)]), rfl⟩

theorem toList_extract (a : ByteArray) (i j : Nat) : (a.extract i j).toList = (a.toList.take j).drop i := by
  rw [ByteArray.toList_eq, ByteArray.toList_eq]
  simp [List.drop_take]

theorem toList_append (a b : ByteArray) : (a ++ b).toList = a.toList ++ b.toList := by
  rw [ByteArray.toList_eq, ByteArray.toList_eq, ByteArray.toList_eq]
  simp

theorem toList_lit (l : Bytes) : (⟨l.toArray⟩ : ByteArray).toList = l := by rw [ByteArray.toList_eq]

theorem toList_tail (a : ByteArray) : (a.extract 1 a.size).toList = a.toList.drop 1 := by
  rw [toList_extract, List.take_of_length_le (by rw [toList_length]; omega)]

theorem whole_opposite (a : ByteArray) (z : Int) (w : World) (ha : IsI a z) (h1 : a.size ≤ 140737488351232) :
    Calls Tryz.prog 124 #[.string a] w fun e w' => ∃ c, IsI c (-z) ∧ e = .returned (.string c) ∧ w = w' := by
  have hp := ha.pos
  rcases Int.lt_trichotomy z 0 with h | h | h
  · have gs := sgn_neg h
    have hf : ∀ c : ByteArray, c.toList = a.toList.drop 1 → IsI c (-z) := by
      intro c hc
      unfold IsI Is
      rw [hc, ha.out, itoa_neg h, itoa_nonneg (z := -z) (by omega)]
      simp only [List.drop_succ_cons, List.drop_zero]
      congr 1; omega
    have Hf := Lib.hid hf; clear hf
    go_enter Tryz.func124, Tryz.ntmps124
    go_wp2_with (go_at_call 118; refine (whole_sign a z _ ha).mono ?_; rintro e w' ⟨rfl, rfl⟩)
    go_ret
    exact ⟨_, Hf.out _ (toList_tail a), rfl, rfl⟩
  · have gs := sgn_zero h
    have H := Lib.hid h; clear h
    go_enter Tryz.func124, Tryz.ntmps124
    go_wp2_with (go_at_call 118; refine (whole_sign a z _ ha).mono ?_; rintro e w' ⟨rfl, rfl⟩)
    go_ret
    exact ⟨_, ha.cast (by have := H.out; omega), rfl, rfl⟩
  · have gs := sgn_pos h
    have hf : ∀ c : ByteArray, c.toList = 45 :: a.toList → IsI c (-z) := by
      intro c hc
      unfold IsI Is
      rw [hc, ha.out, itoa_neg (z := -z) (by omega), itoa_nonneg (z := z) (by omega)]
      congr 2; omega
    have Hf := Lib.hid hf; clear hf
    go_enter Tryz.func124, Tryz.ntmps124
    go_wp2_with (go_at_call 118; refine (whole_sign a z _ ha).mono ?_; rintro e w' ⟨rfl, rfl⟩)
    go_ret
    exact ⟨_, Hf.out _ (by rw [toList_append, show (⟨#[45]⟩ : ByteArray).toList = [45] from toList_lit [45]]; rfl), rfl, rfl⟩

/-- The first error of two integers. -/
def chk2 (a b : Bytes) : Int := if chk a = 0 then chk b else chk a

theorem row_new (w : World) (xs : List Value) (T : TypeId) : Row (w.alloc (.cells xs.toArray T)) w.heap.size 0 xs := by
  refine ⟨by simp, fun i hi => ?_⟩
  rw [Nat.zero_add, cell_of_row _ _ i xs.toArray T (0, 0) (heap_alloc_new w _)]
  simp

/-- The call 'all(a, b)' behind its list. -/
theorem whole_all2 (a b : ByteArray) (w : World) (T : TypeId) (ha : a.size ≤ 140737488351232) (hb : b.size ≤ 140737488351232) :
    Calls Tryz.prog 102 #[.slice (some ⟨w.heap.size, 0, none⟩) 2 2] (w.alloc (.cells #[.string a, .string b] T)) fun e w' =>
      e = .returned (.int .i64 (chk2 a.toList b.toList)) ∧ Below w.heap.size w w' := by
  refine (whole_all w.heap.size 0 2 2 [a, b] _ rfl (by omega) (by omega) (by intro s hs; simp at hs; rcases hs with rfl | rfl <;> assumption) (row_new w _ T)).mono ?_
  rintro e w' ⟨rfl, h⟩
  refine ⟨ret_int ?_, ((Below.refl _ w).alloc (Nat.le_refl _) _).trans (h.mono (by simp))⟩
  simp only [firstErr, chk2]
  by_cases h1 : chk a.toList = 0
  · rw [if_pos h1, if_pos h1]
    by_cases h2 : chk b.toList = 0
    · rw [if_pos h2, h2]
    · rw [if_neg h2]
  · rw [if_neg h1, if_neg h1]

theorem chk_isNum {s : Bytes} (h : chk s = 0) : isNum s = true ∧ (body s).length ≤ 1024 := by
  unfold chk at h
  by_cases h1 : isNum s = true
  · rw [if_pos h1] at h
    by_cases h2 : (body s).length ≤ 1024
    · exact ⟨h1, h2⟩
    · rw [if_neg h2] at h; cases h
  · rw [if_neg h1] at h; cases h

/-- A text that Check lets by: the integer that it is. -/
theorem chk_num {a : ByteArray} (h : chk a.toList = 0) : IsI a (num a.toList) ∧ wid (num a.toList) ≤ 1024 := by
  obtain ⟨h1, h2⟩ := chk_isNum h
  have hi := IsI.of_num h1
  refine ⟨hi, ?_⟩
  rw [← body_itoa_length, ← hi.out]; exact h2

theorem chk_itoa (z : Int) : chk (Lib.itoa z) = if wid z ≤ 1024 then 0 else 11 := by
  unfold chk
  rw [if_pos (isNum_itoa z), body_itoa_length]

theorem IsI.chk0 {a : ByteArray} {z : Int} (h : IsI a z) (hw : wid z ≤ 1024) : chk a.toList = 0 := by
  rw [h.out, chk_itoa, if_pos hw]

theorem IsI.chk11 {a : ByteArray} {z : Int} (h : IsI a z) (hw : ¬ wid z ≤ 1024) : chk a.toList = 11 := by
  rw [h.out, chk_itoa, if_neg hw]

theorem IsI.body_is {a d : ByteArray} {z : Int} (h : IsI a z) (hd : Is d (body a.toList)) : IsM d z.natAbs := by
  unfold IsM Is
  rw [hd.out, h.out, body_itoa]

theorem cmp_signs {x y : Int} (h : sgn x = sgn y) : sgn x * cmpZ x.natAbs y.natAbs = cmpZ x y := by
  unfold sgn at *
  unfold cmpZ
  repeat' split at h
  all_goals (repeat' split)
  all_goals omega

theorem cmp_lt {x y : Int} (h : sgn x < sgn y) : cmpZ x y = -1 := by
  unfold sgn at h; unfold cmpZ
  repeat' split at h
  all_goals (first | omega | (rw [if_pos (by omega)]))
theorem cmp_gt {x y : Int} (h : sgn y < sgn x) : cmpZ x y = 1 := by
  unfold sgn at h; unfold cmpZ
  repeat' split at h
  all_goals (first | omega | (rw [if_neg (by omega), if_pos (by omega)]))
theorem body_size {a d : ByteArray} {n : Nat} (hd : Is d (body a.toList)) (h : a.size ≤ n) : d.size ≤ n := by
  rw [hd.size]; exact Nat.le_trans (body_le _) (by rw [toList_length]; exact h)

theorem chk_range (s : Bytes) : 0 ≤ chk s ∧ chk s ≤ 11 := by
  unfold chk; repeat' split
  all_goals omega
theorem sgn_range (z : Int) : -1 ≤ sgn z ∧ sgn z ≤ 1 := by
  unfold sgn; repeat' split
  all_goals omega
theorem cmpZ_range (x y : Int) : -1 ≤ cmpZ x y ∧ cmpZ x y ≤ 1 := by
  unfold cmpZ; repeat' split
  all_goals omega

/-- Two results: a number and an error. -/
abbrev R2 (n e : Int) : Value := .tuple #[.int .i64 n, .int .i64 e]

theorem ret_R2 {a b c d : Int} (h : a = c) (h' : b = d) : Ending.returned (R2 a b) = .returned (R2 c d) := by rw [h, h']

theorem below_of_alloc {w w' : World} {o : Obj} (h : Below w.heap.size (w.alloc o) w') : Below w.heap.size w w' := ((Below.refl _ w).alloc (Nat.le_refl _) _).trans h

/-- Two integers that Check lets by. -/
theorem whole_Compare_ok (a b : ByteArray) (x y : Int) (w : World) (ha : IsI a x) (hb : IsI b y) (hx : wid x ≤ 1024) (hy : wid y ≤ 1024) :
    Calls Tryz.prog 81 #[.string a, .string b] w fun e w' => e = .returned (R2 (cmpZ x y) 0) ∧ Below w.heap.size w w' := by
  have sa : a.size ≤ 140737488351232 := by have := ha.size_le; omega
  have sb : b.size ≤ 140737488351232 := by have := hb.size_le; omega
  have g : (chk2 a.toList b.toList != 0) = false := by unfold chk2; rw [if_pos (ha.chk0 hx), hb.chk0 hy]; rfl
  have r1 := sgn_range x
  have r2 := sgn_range y
  have r3 := cmpZ_range x.natAbs y.natAbs
  have rr : -1 ≤ sgn x * cmpZ x.natAbs y.natAbs ∧ sgn x * cmpZ x.natAbs y.natAbs ≤ 1 := by
    rcases (show sgn x = -1 ∨ sgn x = 0 ∨ sgn x = 1 by omega) with e | e | e <;> rw [e] <;> omega
  go_enter Tryz.func81, Tryz.ntmps81
  go_wp2_with (first
    | (go_at_call 102; refine (whole_all2 a b w _ sa sb).mono ?_; rintro e w' ⟨rfl, hb1⟩)
    | (go_at_call 118; refine (whole_sign _ _ _ (by assumption)).mono ?_; rintro e w' ⟨rfl, rfl⟩)
    | (go_at_call 120; refine (trimMinus _ _).mono ?_; rintro e w' ⟨d, hd, rfl, rfl⟩)
    | (go_at_call 119; refine (whole_order _ _ _ _ _ (ha.body_is (by assumption)) (hb.body_is (by assumption)) (body_size (by assumption) sa) (body_size (by assumption) sb)).mono ?_; rintro e w' ⟨rfl, rfl⟩))
  · go_ret2
    exact ⟨ret_R2 (cmp_lt ‹_›).symm rfl, hb1⟩
  · go_ret2
    exact ⟨ret_R2 (cmp_gt ‹_›).symm rfl, hb1⟩
  · go_ret2
    exact ⟨ret_R2 (cmp_signs (by omega)) rfl, hb1⟩

end Go.Proofs.YtgkiaonakiflbaaGreatDoor

/- Numbers as words of the base 1000000000: plain lemmas, no program in sight. -/
namespace Go.Proofs.YtgkiaonakiflbaaGreatDoor

/-- A power of the base. -/
@[irreducible] def PB (j : Nat) : Int := (1000000000 : Int) ^ j
theorem PB_zero : PB 0 = 1 := by unfold PB; rfl
theorem PB_succ (j : Nat) : PB (j + 1) = PB j * 1000000000 := by unfold PB; exact Int.pow_succ ..
theorem PB_pos (j : Nat) : 1 ≤ PB j := by
  induction j with
  | zero => rw [PB_zero]; omega
  | succ j ih => rw [PB_succ]; omega
theorem PB_add (i j : Nat) : PB (i + j) = PB i * PB j := by
  induction j with
  | zero => rw [PB_zero, Nat.add_zero]; omega
  | succ j ih => rw [← Nat.add_assoc, PB_succ, PB_succ, ih, Int.mul_assoc]
theorem PB_le {i j : Nat} (h : i ≤ j) : PB i ≤ PB j := by
  obtain ⟨k, rfl⟩ : ∃ k, j = i + k := ⟨j - i, by omega⟩
  rw [PB_add]
  have h1 := PB_pos i
  have h2 := PB_pos k
  have : PB i * 1 ≤ PB i * PB k := Int.mul_le_mul_of_nonneg_left h2 (by omega)
  omega
theorem PB_lt {i j : Nat} (h : i < j) : PB i * 1000000000 ≤ PB j := by
  rw [← PB_succ]; exact PB_le h
theorem PB_eq (j : Nat) : PB j = ((10 ^ (9 * j) : Nat) : Int) := by
  induction j with
  | zero => rw [PB_zero]; rfl
  | succ j ih =>
    rw [PB_succ, ih, show 9 * (j + 1) = 9 * j + 9 by omega, Nat.pow_add]
    rw [Int.natCast_mul]
    rfl

/-- The number of the first k words. -/
def wsum (f : Nat → Int) : Nat → Int
  | 0 => 0
  | k + 1 => wsum f k + f k * PB k
theorem wsum_zero (f : Nat → Int) : wsum f 0 = 0 := rfl
theorem wsum_succ (f : Nat → Int) (k : Nat) : wsum f (k + 1) = wsum f k + f k * PB k := rfl

/-- The first k words are digits of the base. -/
def InB (f : Nat → Int) (k : Nat) : Prop := ∀ i, i < k → 0 ≤ f i ∧ f i < 1000000000

theorem InB.le {f : Nat → Int} {j k : Nat} (h : InB f k) (hj : j ≤ k) : InB f j := fun i hi => h i (by omega)

theorem wsum_nonneg {f : Nat → Int} {k : Nat} (h : InB f k) : 0 ≤ wsum f k := by
  induction k with
  | zero => rw [wsum_zero]; omega
  | succ k ih =>
    rw [wsum_succ]
    have h1 := ih (h.le (by omega))
    have h2 : 0 ≤ f k * PB k := Int.mul_nonneg (h k (by omega)).1 (by have := PB_pos k; omega)
    omega

theorem wsum_lt {f : Nat → Int} {k : Nat} (h : InB f k) : wsum f k < PB k := by
  induction k with
  | zero => rw [wsum_zero, PB_zero]; omega
  | succ k ih =>
    rw [wsum_succ, PB_succ]
    have h1 := ih (h.le (by omega))
    have h2 : f k * PB k ≤ 999999999 * PB k := Int.mul_le_mul_of_nonneg_right (by have := (h k (by omega)).2; omega) (by have := PB_pos k; omega)
    omega

theorem wsum_congr {f g : Nat → Int} {k : Nat} (h : ∀ i, i < k → f i = g i) : wsum f k = wsum g k := by
  induction k with
  | zero => rfl
  | succ k ih => rw [wsum_succ, wsum_succ, ih (fun i hi => h i (by omega)), h k (by omega)]

theorem wsum_tail {f : Nat → Int} {m n : Nat} (hm : m ≤ n) (h : ∀ i, m ≤ i → i < n → f i = 0) : wsum f n = wsum f m := by
  induction n with
  | zero => rw [show m = 0 by omega]
  | succ n ih =>
    by_cases e : m = n + 1
    · rw [e]
    · rw [wsum_succ, h n (by omega) (by omega), ih (by omega) (fun i h1 h2 => h i h1 (by omega))]; omega

theorem wsum_const_zero (n : Nat) : wsum (fun _ => 0) n = 0 := by
  rw [wsum_tail (m := 0) (by omega) (fun _ _ _ => rfl)]; rfl

/-- Words of one number are one. -/
theorem wsum_inj {f g : Nat → Int} {k : Nat} (hf : InB f k) (hg : InB g k) (h : wsum f k = wsum g k) : ∀ i, i < k → f i = g i := by
  induction k with
  | zero => intro i hi; omega
  | succ k ih =>
    rw [wsum_succ, wsum_succ] at h
    have a1 := wsum_nonneg (hf.le (show k ≤ k + 1 by omega))
    have a2 := wsum_lt (hf.le (show k ≤ k + 1 by omega))
    have b1 := wsum_nonneg (hg.le (show k ≤ k + 1 by omega))
    have b2 := wsum_lt (hg.le (show k ≤ k + 1 by omega))
    have e : f k = g k := by
      rcases Int.lt_trichotomy (f k) (g k) with hl | hl | hl
      · have : (f k + 1) * PB k ≤ g k * PB k := Int.mul_le_mul_of_nonneg_right (by omega) (by have := PB_pos k; omega)
        rw [Int.add_mul] at this
        omega
      · exact hl
      · have : (g k + 1) * PB k ≤ f k * PB k := Int.mul_le_mul_of_nonneg_right (by omega) (by have := PB_pos k; omega)
        rw [Int.add_mul] at this
        omega
    rw [e] at h
    have hr := ih (hf.le (by omega)) (hg.le (by omega)) (by omega)
    intro i hi
    by_cases hi' : i = k
    · rw [hi', e]
    · exact hr i (by omega)

/-- One word is another one. -/
def upd (f : Nat → Int) (i : Nat) (v : Int) : Nat → Int := fun j => if j = i then v else f j
theorem upd_same (f : Nat → Int) (i : Nat) (v : Int) : upd f i v i = v := by unfold upd; rw [if_pos rfl]
theorem upd_other (f : Nat → Int) (i : Nat) (v : Int) {j : Nat} (h : j ≠ i) : upd f i v j = f j := by unfold upd; rw [if_neg h]

theorem wsum_upd (f : Nat → Int) (i : Nat) (v : Int) {k : Nat} (h : i < k) : wsum (upd f i v) k = wsum f k + (v - f i) * PB i := by
  induction k with
  | zero => omega
  | succ k ih =>
    rw [wsum_succ, wsum_succ]
    by_cases e : i = k
    · subst e
      rw [upd_same, wsum_congr (f := upd f i v) (g := f) (fun j hj => upd_other f i v (by omega)), Int.sub_mul]; omega
    · rw [ih (by omega), upd_other f i v (by omega)]; omega

theorem InB.upd {f : Nat → Int} {k i : Nat} {v : Int} (h : InB f k) (h0 : 0 ≤ v) (h1 : v < 1000000000) : InB (upd f i v) k := by
  intro j hj
  by_cases e : j = i
  · rw [e, upd_same]; exact ⟨h0, h1⟩
  · rw [upd_other f i v e]; exact h j hj

/-- A number's words: n of them, none behind, the last one not 0. -/
structure Norm (n : Nat) (f : Nat → Int) : Prop where
  le : n ≤ 232
  inb : InB f 232
  zero : ∀ i, n ≤ i → i < 232 → f i = 0
  top : 0 < n → f (n - 1) ≠ 0

theorem Norm.sum {n : Nat} {f : Nat → Int} (h : Norm n f) : wsum f 232 = wsum f n := wsum_tail h.le (fun i h1 h2 => h.zero i h1 h2)
theorem Norm.nonneg {n : Nat} {f : Nat → Int} (h : Norm n f) : 0 ≤ wsum f n := wsum_nonneg (h.inb.le h.le)
theorem Norm.lt {n : Nat} {f : Nat → Int} (h : Norm n f) : wsum f n < PB n := wsum_lt (h.inb.le h.le)
theorem Norm.ge {n : Nat} {f : Nat → Int} (h : Norm n f) (hn : 0 < n) : PB (n - 1) ≤ wsum f n := by
  obtain ⟨k, rfl⟩ : ∃ k, n = k + 1 := ⟨n - 1, by omega⟩
  rw [wsum_succ]
  have ht := h.top hn
  rw [Nat.add_sub_cancel] at *
  have hi := h.inb k (by have := h.le; omega)
  have h0 := wsum_nonneg (h.inb.le (show k ≤ 232 by have := h.le; omega))
  have : 1 * PB k ≤ f k * PB k := Int.mul_le_mul_of_nonneg_right (by omega) (by have := PB_pos k; omega)
  omega
theorem Norm.zero_iff {n : Nat} {f : Nat → Int} (h : Norm n f) : wsum f n = 0 ↔ n = 0 := by
  constructor
  · intro e
    rcases Nat.eq_zero_or_pos n with h0 | h0
    · exact h0
    · have := h.ge h0
      have := PB_pos (n - 1)
      omega
  · intro e; subst e; rfl
theorem Norm.lt_of {m n : Nat} {f g : Nat → Int} (hf : Norm m f) (hg : Norm n g) (h : m < n) : wsum f m < wsum g n := by
  have h1 := hf.lt
  have h2 := hg.ge (by omega)
  have h3 := PB_le (show m ≤ n - 1 by omega)
  omega

/-- The step of carry: the word and what is carried. -/
theorem tdiv_nonneg {s : Int} (h : 0 ≤ s) : s.tdiv 1000000000 = s / 1000000000 := Int.tdiv_eq_ediv_of_nonneg h
theorem tdiv_neg {s : Int} (h : s < 0) : s.tdiv 1000000000 = -((-s) / 1000000000) := by
  have e : s = -(-s) := by omega
  rw [e, Int.neg_tdiv, Int.tdiv_eq_ediv_of_nonneg (by omega), Int.neg_neg]

theorem carry_keep {s : Int} (h : ¬ s - s.tdiv 1000000000 * 1000000000 < 0) : s - s.tdiv 1000000000 * 1000000000 = s % 1000000000 ∧ s.tdiv 1000000000 = s / 1000000000 := by
  rcases Int.lt_or_le s 0 with hs | hs
  · rw [tdiv_neg hs] at *; omega
  · rw [tdiv_nonneg hs] at *; omega
theorem carry_fix {s : Int} (h : s - s.tdiv 1000000000 * 1000000000 < 0) : s - s.tdiv 1000000000 * 1000000000 + 1000000000 = s % 1000000000 ∧ s.tdiv 1000000000 - 1 = s / 1000000000 := by
  rcases Int.lt_or_le s 0 with hs | hs
  · rw [tdiv_neg hs] at *; omega
  · rw [tdiv_nonneg hs] at *; omega

theorem tdiv_facts {s : Int} (h0 : -1000000000000000000 ≤ s) (h1 : s ≤ 1000000000000000000) :
    -1000000000 ≤ s.tdiv 1000000000 ∧ s.tdiv 1000000000 ≤ 1000000000 ∧ -1000000000 < s - s.tdiv 1000000000 * 1000000000 ∧ s - s.tdiv 1000000000 * 1000000000 < 1000000000 := by
  rcases Int.lt_or_le s 0 with hs | hs
  · rw [tdiv_neg hs]; omega
  · rw [tdiv_nonneg hs]; omega

/-- What holds at the head of a round of carry: g the words, r what is carried, T what there shall be. -/
structure Carry (g : Nat → Int) (m : Nat) (r : Int) (i up : Nat) (F X Y : Int) (y : Nat → Int) (yn : Nat) : Prop where
  inb : InB g 232
  mle : m ≤ 232
  zero : ∀ j, m ≤ j → j < 232 → g j = 0
  lo : -999999999 ≤ r
  hi : r ≤ 999999999
  val : wsum g 232 + r * PB (up + i) = X + F * wsum y (min i yn) * PB up

theorem Carry.start {g : Nat → Int} {m : Nat} (hg : Norm m g) (up : Nat) (F Y : Int) (y : Nat → Int) (yn : Nat) : Carry g m 0 0 up F (wsum g m) Y y yn := by
  refine ⟨hg.inb, hg.le, hg.zero, by omega, by omega, ?_⟩
  rw [hg.sum, Nat.zero_min, wsum_zero, Int.zero_mul, Int.mul_zero, Int.zero_mul]

theorem mul_bound {F y : Int} (h1 : -999999999 ≤ F) (h2 : F ≤ 999999999) (h3 : 0 ≤ y) (h4 : y < 1000000000) : -(999999999 * 999999999) ≤ F * y ∧ F * y ≤ 999999999 * 999999999 := by
  have a : F * y ≤ 999999999 * y := Int.mul_le_mul_of_nonneg_right h2 h3
  have b : (-999999999) * y ≤ F * y := Int.mul_le_mul_of_nonneg_right h1 h3
  omega

/-- Where there is still something to do there is a word. -/
theorem Carry.room {g : Nat → Int} {m : Nat} {r : Int} {i up : Nat} {F X Y : Int} {y : Nat → Int} {yn : Nat} (h : Carry g m r i up F X Y y yn)
    (hY : wsum y yn = Y) (hup : up + yn ≤ 232) (h0 : 0 ≤ X + F * Y * PB up) (h1 : X + F * Y * PB up < PB 232) (hgo : i < yn ∨ r ≠ 0) : up + i < 232 := by
  rcases Nat.lt_or_ge i yn with hi | hi
  · omega
  · have hr : r ≠ 0 := by rcases hgo with h' | h'; · omega
                          · exact h'
    have hv := h.val
    rw [Nat.min_eq_right hi, hY] at hv
    rcases Nat.lt_or_ge (up + i) 232 with hl | hl
    · exact hl
    · exfalso
      have hp := PB_le hl
      have hpp := PB_pos 232
      have a1 := wsum_nonneg h.inb
      have a2 := wsum_lt h.inb
      rcases Int.lt_or_le r 0 with hneg | hpos
      · have : r * PB (up + i) ≤ (-1) * PB (up + i) := Int.mul_le_mul_of_nonneg_right (by omega) (by omega)
        omega
      · have : 1 * PB (up + i) ≤ r * PB (up + i) := Int.mul_le_mul_of_nonneg_right (by omega) (by omega)
        omega

theorem Carry.step {g : Nat → Int} {m : Nat} {r : Int} {i up : Nat} {F X Y : Int} {y : Nat → Int} {yn : Nat} (h : Carry g m r i up F X Y y yn) (hk : up + i < 232)
    {s : Int} (hlo : -(999999999 * 999999999) ≤ s - g (up + i) - r) (hhi : s - g (up + i) - r ≤ 999999999 * 999999999)
    (hs : (s - g (up + i) - r) * PB (up + i) = F * (wsum y (min (i + 1) yn) - wsum y (min i yn)) * PB up) :
    Carry (upd g (up + i) (s % 1000000000)) (max m (up + i + 1)) (s / 1000000000) (i + 1) up F X Y y yn := by
  have hi := h.inb (up + i) hk
  have hl := h.lo
  have hh := h.hi
  refine ⟨h.inb.upd (by omega) (by omega), by have := h.mle; omega, ?_, by omega, by omega, ?_⟩
  · intro j h1 h2
    rw [upd_other _ _ _ (by omega)]
    exact h.zero j (by omega) h2
  · rw [wsum_upd g (up + i) _ hk, ← Nat.add_assoc, PB_succ]
    have hv := h.val
    have hs' : F * (wsum y (min (i + 1) yn) - wsum y (min i yn)) * PB up = F * wsum y (min (i + 1) yn) * PB up - F * wsum y (min i yn) * PB up := by rw [Int.mul_sub, Int.sub_mul]
    rw [hs'] at hs
    have e : s / 1000000000 * (PB (up + i) * 1000000000) = (s / 1000000000 * 1000000000) * PB (up + i) := by
      rw [Int.mul_comm (PB (up + i)), Int.mul_assoc]
    rw [e]
    have e2 : (s % 1000000000 - g (up + i)) * PB (up + i) + s / 1000000000 * 1000000000 * PB (up + i) = (s - g (up + i) - r) * PB (up + i) + r * PB (up + i) := by
      rw [← Int.add_mul, ← Int.add_mul]
      have e3 : s % 1000000000 - g (up + i) + s / 1000000000 * 1000000000 = s - g (up + i) - r + r := by omega
      rw [e3]
    omega

theorem Carry.end_ {g : Nat → Int} {m : Nat} {i up : Nat} {F X Y : Int} {y : Nat → Int} {yn : Nat} (h : Carry g m 0 i up F X Y y yn) (hi : yn ≤ i) (hY : wsum y yn = Y) :
    wsum g 232 = X + F * Y * PB up := by
  have hv := h.val
  rw [Nat.min_eq_right hi, hY, Int.zero_mul, Int.add_zero] at hv
  exact hv

theorem min_step (i yn : Nat) (y : Nat → Int) : wsum y (min (i + 1) yn) - wsum y (min i yn) = if i < yn then y i * PB i else 0 := by
  by_cases h : i < yn
  · rw [if_pos h, Nat.min_eq_left (by omega), Nat.min_eq_left (by omega), wsum_succ]; omega
  · rw [if_neg h, Nat.min_eq_right (by omega), Nat.min_eq_right (by omega)]; omega

/-- Words behind which trimmed has left out zeros. -/
theorem norm_trim {g : Nat → Int} {m k : Nat} (hi : InB g 232) (hm : m ≤ 232) (hz : ∀ j, m ≤ j → j < 232 → g j = 0) (hk : k ≤ m) (hkz : ∀ j, k ≤ j → j < m → g j = 0) (ht : 0 < k → g (k - 1) ≠ 0) : Norm k g :=
  ⟨by omega, hi, fun j h1 h2 => by
    rcases Nat.lt_or_ge j m with h | h
    · exact hkz j h1 h
    · exact hz j h h2, ht⟩

/-- The i-th word of a number. -/
def dw (m : Nat) (i : Nat) : Int := ((m / 10 ^ (9 * i) % 1000000000 : Nat) : Int)
theorem dw_range (m i : Nat) : 0 ≤ dw m i ∧ dw m i < 1000000000 := by unfold dw; omega

theorem wsum_dw (m n : Nat) : wsum (dw m) n = ((m % 10 ^ (9 * n) : Nat) : Int) := by
  induction n with
  | zero => rw [wsum_zero]; simp [Nat.mod_one]
  | succ n ih =>
    rw [wsum_succ, ih, PB_eq]
    unfold dw
    rw [← Int.natCast_mul, ← Int.natCast_add]
    congr 1
    rw [show 9 * (n + 1) = 9 * n + 9 by omega, Nat.pow_add, Nat.mod_mul]
    rw [show (10 : Nat) ^ 9 = 1000000000 by decide, Nat.mul_comm (m / 10 ^ (9 * n) % 1000000000)]

/-- The first j words of a number. -/
def cutw (m j : Nat) : Nat → Int := fun i => if i < j then dw m i else 0
theorem cutw_zero (m : Nat) : cutw m 0 = fun _ => 0 := by funext i; unfold cutw; rw [if_neg (by omega)]
theorem cutw_succ (m j : Nat) : upd (cutw m j) j (dw m j) = cutw m (j + 1) := by
  funext i
  unfold upd cutw
  by_cases h : i = j
  · rw [if_pos h, if_pos (by omega), h]
  · rw [if_neg h]
    by_cases h2 : i < j
    · rw [if_pos h2, if_pos (by omega)]
    · rw [if_neg h2, if_neg (by omega)]
theorem cutw_inb (m j k : Nat) : InB (cutw m j) k := by
  intro i _
  unfold cutw
  split
  · exact dw_range m i
  · omega
theorem cutw_tail (m j i : Nat) (h : j ≤ i) : cutw m j i = 0 := by unfold cutw; rw [if_neg (by omega)]
theorem cutw_sum {m j k : Nat} (h : j ≤ k) (hm : m < 10 ^ (9 * j)) : wsum (cutw m j) k = (m : Int) := by
  rw [wsum_tail h (fun i h1 _ => cutw_tail m j i h1), wsum_congr (g := dw m) (fun i hi => by unfold cutw; rw [if_pos hi]), wsum_dw, Nat.mod_eq_of_lt hm]

end Go.Proofs.YtgkiaonakiflbaaGreatDoor
