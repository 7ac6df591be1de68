/- K3: the texts Builder Text Ops Ari Part Gcd, joined. -/
import Derived.Test.YtgkiaonakiflbaaGreatDoorK1
import Derived.Test.YtgkiaonakiflbaaGreatDoorK2
import Derived.Shelf.Strings.Builder1
/- The contracts of strings.Builder's writers at this translation (turned from the kit's own proofs; copyCheck's last branch is another one here). -/
namespace Go.Proofs.YtgkiaonakiflbaaGreatDoor
open Go.RowKit

theorem bInfo : (Tryz.prog.info? 165).map (·.size) = some 2 := by kernel_rfl
theorem bLies : Builder.X72 Tryz.prog Tryz.lays169_ren := { sizeBuilder := by kernel_rfl, liesBuilder := by kernel_rfl }
theorem byteInfo : (Tryz.prog.info? 5).map (fun i => (i.zero, i.size, i.bytes)) = some (some (.int .u8 0), 1, 1) := by kernel_rfl

set_option maxHeartbeats 1000000 in
set_option maxRecDepth 100000 in
theorem copyCheck_used (b : Nat) (w : World) (h0 : w.cell? ⟨b, 0, none⟩ = some (.pointer (some ⟨b, 0, none⟩))) :
    Calls Tryz.prog 166 #[.pointer (some ⟨b, 0, none⟩)] w fun e w' => e = .returned (.tuple #[]) ∧ w' = w := by
  obtain ⟨j, hj, _⟩ := Option.map_eq_some_iff.1 bInfo
  go_enter Tryz.func166, Tryz.ntmps166
  go_wp2
  rw [Lib.run_neq_ptr_same w _ Tryz.underlying163 hj]
  go_wp2
  go_end0
  exact ⟨rfl, rfl⟩

set_option maxHeartbeats 1000000 in
set_option maxRecDepth 100000 in
theorem copyCheck_fresh (b : Nat) (w : World) (h0 : w.cell? ⟨b, 0, none⟩ = some (.pointer none)) (hsh : w.shape? b = some (165, 2)) (hfz : w.frozen? ⟨b, 0, none⟩ = false) :
    Calls Tryz.prog 166 #[.pointer (some ⟨b, 0, none⟩)] w fun e w' => e = .returned (.tuple #[]) ∧ w' = w.setCell ⟨b, 0, none⟩ (.pointer (some ⟨b, 0, none⟩)) := by
  obtain ⟨j, hj, hjs⟩ := Option.map_eq_some_iff.1 bInfo
  go_enter Tryz.func166, Tryz.ntmps166
  go_wp2
  rw [Lib.run_to_unsafe w ⟨b, 0, none⟩ Tryz.underlying163 Tryz.underlying192 hj (by rw [hjs]; decide) hsh (Nat.zero_lt_succ 1)]
  simp only [Result.andThen]
  rw [Oper.upon_value]
  go_wp2
  rw [run_callFunc_extern Tryz.func184 (by kernel_rfl) (by kernel_rfl) (by kernel_rfl) (e := Extern.AbiNoEscape.same) (by kernel_rfl)]
  rw [Lib.run_noEscape]
  simp only [Result.andThen]
  rw [Oper.upon_value]
  go_wp2
  rw [Lib.run_from_unsafe w ⟨b, 0, none⟩ Tryz.underlying192 Tryz.underlying163 hj hsh bLies.liesBuilder]
  simp only [Result.andThen]
  rw [Oper.upon_value]
  go_wp2
  go_end0
  exact ⟨rfl, rfl⟩

theorem copyCheck (B b : Nat) (bs : List Value) (w : World) (h : Lib.IsBuilder 165 5 B b bs w) :
    Calls Tryz.prog 166 #[.pointer (some ⟨b, 0, none⟩)] w fun e w' => e = .returned (.tuple #[]) ∧ (Lib.BuilderAt 165 5 B b (.pointer (some ⟨b, 0, none⟩)) bs w' ∧ Below B w w') := by
  rcases h with h | h
  · refine (copyCheck_fresh b w h.cell0 h.shape h.frozen0).mono ?_
    rintro e w' ⟨rfl, rfl⟩
    exact ⟨rfl, h.used _, (Below.refl B w).setCell (p := ⟨b, 0, none⟩) h.1 _⟩
  · refine (copyCheck_used b w h.cell0).mono ?_
    rintro e w' ⟨rfl, rfl⟩
    exact ⟨rfl, h, Below.refl B _⟩

set_option maxHeartbeats 2000000 in
set_option maxRecDepth 100000 in
theorem writeByte (B b : Nat) (bs : List Value) (c : Int) (w : World) (h : Lib.IsBuilder 165 5 B b bs w) (hlen : bs.length + 1 ≤ 140737488355328) (hBw : B ≤ w.heap.size) :
    Calls Tryz.prog 153 #[.pointer (some ⟨b, 0, none⟩), .int .u8 c] w fun e w' => e = .returned .nilIface ∧ (Lib.BuilderAt 165 5 B b (.pointer (some ⟨b, 0, none⟩)) (bs ++ [.int .u8 c]) w' ∧ Below B w w') := by
  obtain ⟨i0, hi, hz0, hz1, hz2⟩ := info_parts byteInfo
  go_enter Tryz.func153, Tryz.ntmps153
  go_wp2_with (go_at_call 166; refine (copyCheck B b bs _ h).mono ?_)
  rintro e w1 ⟨rfl, h1, hb1⟩
  obtain ⟨hB, v, hbk, hown, hne⟩ := h1
  have c0 : w1.cell? ⟨b, 0, none⟩ = some (.pointer (some ⟨b, 0, none⟩)) := by rw [Lib.cell_of_heap hbk]; rfl
  have c1 : w1.cell? ⟨b, 1, none⟩ = some v := by rw [Lib.cell_of_heap hbk]; rfl
  go_wp2_with (at_builtin; refine wpList_append_own _ rfl _ _ 131 rfl B 5 i0 (.int .u8 0) 1 1 Tryz.underlying131 hi hz0 hz1 hz2 rfl (by decide) _ _ _ rfl (hown.alloc _) ⟨w1.heap.size, 0, none⟩ 1 1 [.int .u8 c] rfl rfl ?c1 ?c2 ?c3 ?c4 ?c5 ?_)
  case c1 =>
    intro j u hj
    match j, hj with
    | 0, hj => simp at hj; subst hj; simp [Addr.add]
  case c2 => intro u hu; simp at hu; subst hu; rfl
  case c3 => unfold maxLen; omega
  case c4 => omega
  case c5 => have := hb1.size; simp; omega
  intro v' w2 hown' hgrow _
  have hlt : b < w1.heap.size := by
    rcases Nat.lt_or_ge b w1.heap.size with h' | h'
    · exact h'
    · simp [Array.getElem?_eq_none h'] at hbk
  have hb2 : w2.heap[b]? = some (.cells #[.pointer (some ⟨b, 0, none⟩), v] 165 (0, 0)) := by
    rw [hgrow.block b (by simp; omega) (fun e => hne e.symm), Lib.alloc_old w1 _ b hlt]
    exact hbk
  have d0 : w2.cell? ⟨b, 0, none⟩ = some (.pointer (some ⟨b, 0, none⟩)) := by rw [Lib.cell_of_heap hb2]; rfl
  have d1 : w2.cell? ⟨b, 1, none⟩ = some v := by rw [Lib.cell_of_heap hb2]; rfl
  have f1 : w2.frozen? ⟨b, 1, none⟩ = false := Lib.frozen_of_heap hb2 1
  obtain ⟨g, cap, rfl⟩ : ∃ g cap, v' = .slice (some ⟨g, 0, none⟩) (bs.length + 1) cap := by
    rcases hown'.2 with ⟨_, h0⟩ | ⟨g, cap, cur, hv, _⟩
    · omega
    · exact ⟨g, cap, hv⟩
  go_wp2
  go_ret
  refine ⟨rfl, ?_, ?_⟩
  · exact Lib.BuilderAt.put (T := 165) (e := 5) hB hb2 (bs' := bs ++ [.int .u8 c]) (by simpa using hown') (by decide)
  · exact ((hb1.alloc (by have := hb1.size; omega) _).grown hgrow (by have := hb1.size; simp; omega) (fun k hk => (hown.lt k hk).1)).setCell (p := ⟨b, 1, none⟩) hB _

set_option maxHeartbeats 2000000 in
set_option maxRecDepth 100000 in
theorem writeString (B b : Nat) (bs : List Value) (s : ByteArray) (w : World) (h : Lib.IsBuilder 165 5 B b bs w) (hlen : bs.length + s.size ≤ 140737488355328) (hBw : B ≤ w.heap.size) :
    Calls Tryz.prog 154 #[.pointer (some ⟨b, 0, none⟩), .string s] w fun e w' => e = .returned (.tuple #[.int .i64 s.size, .nilIface]) ∧ (Lib.BuilderAt 165 5 B b (.pointer (some ⟨b, 0, none⟩)) (bs ++ Lib.strCells s) w' ∧ Below B w w') := by
  obtain ⟨i0, hi, hz0, hz1, hz2⟩ := info_parts byteInfo
  go_enter Tryz.func154, Tryz.ntmps154
  go_wp2_with (go_at_call 166; refine (copyCheck B b bs _ h).mono ?_)
  rintro e w1 ⟨rfl, h1, hb1⟩
  obtain ⟨hB, v, hbk, hown, hne⟩ := h1
  have c0 : w1.cell? ⟨b, 0, none⟩ = some (.pointer (some ⟨b, 0, none⟩)) := by rw [Lib.cell_of_heap hbk]; rfl
  have c1 : w1.cell? ⟨b, 1, none⟩ = some v := by rw [Lib.cell_of_heap hbk]; rfl
  go_wp2_with (at_builtin; refine Lib.wpList_append_own_string _ rfl _ _ 131 9 rfl B 5 i0 Tryz.underlying131 Tryz.underlying9 hi hz0 hz1 hz2 _ _ _ rfl hown s rfl ?c3 ?c4 ?c5 ?_)
  case c3 => unfold maxLen; omega
  case c4 => omega
  case c5 => have := hb1.size; omega
  intro v' w2 hown' hgrow _
  have hlt : b < w1.heap.size := by
    rcases Nat.lt_or_ge b w1.heap.size with h' | h'
    · exact h'
    · simp [Array.getElem?_eq_none h'] at hbk
  have hb2 : w2.heap[b]? = some (.cells #[.pointer (some ⟨b, 0, none⟩), v] 165 (0, 0)) := by
    rw [hgrow.block b hlt (fun e => hne e.symm)]
    exact hbk
  have d0 : w2.cell? ⟨b, 0, none⟩ = some (.pointer (some ⟨b, 0, none⟩)) := by rw [Lib.cell_of_heap hb2]; rfl
  have d1 : w2.cell? ⟨b, 1, none⟩ = some v := by rw [Lib.cell_of_heap hb2]; rfl
  have f1 : w2.frozen? ⟨b, 1, none⟩ = false := Lib.frozen_of_heap hb2 1
  obtain ⟨ao, n', cap, rfl⟩ : ∃ ao n' cap, v' = .slice ao n' cap := by
    rcases hown'.2 with ⟨hv, _⟩ | ⟨g, cap, cur, hv, _⟩
    · exact ⟨_, _, _, hv⟩
    · exact ⟨_, _, _, hv⟩
  go_wp2
  go_ret2
  refine ⟨rfl, ?_, ?_⟩
  · exact Lib.BuilderAt.put (T := 165) (e := 5) hB hb2 (bs' := bs ++ Lib.strCells s) (by simpa [Lib.strCells_length] using hown') (by decide)
  · exact (hb1.grown hgrow (by have := hb1.size; omega) (fun k hk => (hown.lt k hk).1)).setCell (p := ⟨b, 1, none⟩) hB _

end Go.Proofs.YtgkiaonakiflbaaGreatDoor

/- The contracts of (*wide).text and limited. -/
namespace Go.Proofs.YtgkiaonakiflbaaGreatDoor
open Go.RowKit

theorem wsum_front (g : Nat → Int) (m : Nat) : wsum g (m + 1) = g 0 + 1000000000 * wsum (fun j => g (j + 1)) m := by
  induction m with
  | zero => rw [wsum_succ, wsum_zero, wsum_zero, PB_zero]; omega
  | succ m ih =>
    rw [wsum_succ, ih, wsum_succ (fun j => g (j + 1)) m, PB_succ, Int.mul_add]
    have e : g (m + 1) * (PB m * 1000000000) = 1000000000 * (g (m + 1) * PB m) := by
      rw [← Int.mul_assoc, Int.mul_comm]
    omega

/-- The number of the words from k on. -/
def tl (f : Nat → Int) (n k : Nat) : Int := wsum (fun j => f (k + j)) (n - k)
theorem tl_zero (f : Nat → Int) (n : Nat) : tl f n 0 = wsum f n := by
  unfold tl; simp
theorem tl_end (f : Nat → Int) (n : Nat) : tl f n n = 0 := by unfold tl; rw [Nat.sub_self]; rfl
theorem tl_step (f : Nat → Int) {n k : Nat} (h : k < n) : tl f n k = f k + 1000000000 * tl f n (k + 1) := by
  unfold tl
  rw [show n - k = (n - (k + 1)) + 1 by omega, wsum_front, Nat.add_zero]
  congr 2
  exact wsum_congr (fun i _ => by rw [show k + (i + 1) = k + 1 + i by omega])
theorem tl_nonneg {f : Nat → Int} {n k : Nat} (h : InB f 232) (hn : n ≤ 232) : 0 ≤ tl f n k := by
  unfold tl
  exact wsum_nonneg (fun i hi => h (k + i) (by omega))
theorem tl_pos {f : Nat → Int} {n k : Nat} (h : Norm n f) (hk : k < n) : 0 < tl f n k := by
  obtain ⟨j, rfl⟩ : ∃ j, n = k + j + 1 := ⟨n - k - 1, by omega⟩
  clear hk
  induction j generalizing k with
  | zero =>
    rw [tl_step f (by omega), tl_end]
    have := h.top (by omega)
    have := h.inb k (by have := h.le; omega)
    simp at *
    omega
  | succ j ih =>
    rw [tl_step f (by omega)]
    have h' := ih (k := k + 1) (by rw [show k + 1 + j + 1 = k + (j + 1) + 1 by omega]; exact h)
    rw [show k + 1 + j + 1 = k + (j + 1) + 1 by omega] at h'
    have := h.inb k (by have := h.le; omega)
    omega

/-- A word with zeros in front. -/
def pad9 (d : Nat) : Bytes := List.replicate (9 - Lib.nDigits d) 48 ++ Lib.decDigits d

theorem dval_zeros (k : Nat) : dval (List.replicate k 48) = 0 := by
  induction k with
  | zero => rfl
  | succ k ih =>
    rw [List.replicate_succ, dval_cons, ih, digv_eq]
    have h48 : (48 : UInt8).toNat = 48 := rfl
    rw [h48]; simp

theorem nDigits_nine {d : Nat} (h : d < 1000000000) : Lib.nDigits d ≤ 9 := nDigits_le_of_lt 9 d (by omega) (by rw [show (10 : Nat) ^ 9 = 1000000000 by decide]; exact h)

theorem decDigits_pad {H d : Nat} (hH : 0 < H) (hd : d < 1000000000) : Lib.decDigits (H * 1000000000 + d) = Lib.decDigits H ++ pad9 d := by
  have hlen : (pad9 d).length = 9 := by
    unfold pad9
    rw [List.length_append, List.length_replicate, Lib.decDigits_length]
    have := nDigits_nine hd
    omega
  have hval : dval (Lib.decDigits H ++ pad9 d) = H * 1000000000 + d := by
    rw [dval_append, hlen, dval_decDigits, show (10 : Nat) ^ 9 = 1000000000 by decide]
    unfold pad9
    rw [dval_append, dval_zeros, dval_decDigits]; omega
  rw [← hval]
  apply decDigits_dval
  · intro c hc
    rcases List.mem_append.1 hc with hc | hc
    · exact decDigits_all H c hc
    · unfold pad9 at hc
      rcases List.mem_append.1 hc with hc | hc
      · rw [List.mem_replicate] at hc
        rw [hc.2]; decide
      · exact decDigits_all d c hc
  · simp [decDigits_ne_nil]
  · left
    rw [head_append (decDigits_ne_nil H)]
    exact decDigits_head H hH

theorem builder_below {B b : Nat} {p : Value} {bs : List Value} {w w' : World} (h : Lib.BuilderAt 165 5 B b p bs w) (hb : Below w.heap.size w w') : Lib.BuilderAt 165 5 B b p bs w' := by
  have hlt := h.lt
  obtain ⟨hB, v, hbk, hown, hne⟩ := h
  refine ⟨hB, v, (hb.block b hlt).trans hbk, ?_, hne⟩
  obtain ⟨h1, h2⟩ := hown
  refine ⟨h1, ?_⟩
  rcases h2 with h2 | ⟨g, cap, cur, hv, hg, hh, r⟩
  · exact .inl h2
  · refine .inr ⟨g, cap, cur, hv, hg, (hb.block g ?_).trans hh, r⟩
    rcases Nat.lt_or_ge g w.heap.size with hl | hl
    · exact hl
    · rw [Array.getElem?_eq_none hl] at hh; cases hh

theorem strCells_append (s t : ByteArray) : Lib.strCells s ++ Lib.strCells t = Lib.byteCells (s.toList ++ t.toList) := by
  rw [Lib.strCells_eq, Lib.strCells_eq, ByteArray.toList_eq, ByteArray.toList_eq]
  simp [Lib.byteCells]
theorem byteCells_append (l : Bytes) (s : ByteArray) : Lib.byteCells l ++ Lib.strCells s = Lib.byteCells (l ++ s.toList) := by
  rw [Lib.strCells_eq, ByteArray.toList_eq]
  simp [Lib.byteCells]
theorem byteCells_length (l : Bytes) : (Lib.byteCells l).length = l.length := by simp [Lib.byteCells]

/-- A text that is an integer, made anew. -/
def NewText (z : Int) (w : World) (e : Ending) (w' : World) : Prop := ∃ c, IsI c z ∧ e = .returned (.string c) ∧ Below w.heap.size w w'

/-- The sign in front. -/
def front (l : Bool) : Bytes := if l = true then [45] else []

theorem sval_text {l : Bool} {v : Int} (hv : 0 < v) : front l ++ Lib.decDigits v.toNat = Lib.itoa (sval l v) := by
  cases l with
  | true => rw [sval_true, itoa_neg (by omega), show (-v).natAbs = v.toNat by omega]; rfl
  | false => rw [sval_false, itoa_nonneg (by omega)]; rfl

theorem builder_new (w : World) : Lib.BuilderAt 165 5 w.heap.size w.heap.size (.pointer none) [] (w.alloc (.cells #[.pointer none, .slice none 0 0] 165)) :=
  ⟨Nat.le_refl _, .slice none 0 0, heap_alloc_new w _, ⟨by simp, .inl ⟨rfl, rfl⟩⟩, by simp [Value.ownBlock]⟩

theorem isb_below {B b : Nat} {bs : List Value} {w w' : World} (h : Lib.IsBuilder 165 5 B b bs w) (hb : Below w.heap.size w w') : Lib.IsBuilder 165 5 B b bs w' := by
  rcases h with h | h
  · exact .inl (builder_below h hb)
  · exact .inr (builder_below h hb)

theorem IsI.size9 {c : ByteArray} {a : Int} (h : IsI c a) (h0 : 0 ≤ a) (h1 : a < 1000000000) : c.size ≤ 9 := by
  rw [h.size, itoa_length, if_neg (by omega)]
  exact nDigits_nine (by omega)
theorem front_room {F : Bytes} {n : Nat} (hF : F.length ≤ 1) (h : n ≤ 9) : F.length + n ≤ 140737488355328 := by omega

theorem pad_size {s : ByteArray} (h : s.size ≤ 9) : ((⟨#[48, 48, 48, 48, 48, 48, 48, 48, 48]⟩ : ByteArray).extract s.size 9 ++ s).size = 9 := by
  rw [ByteArray.size_append, ByteArray.size_extract]
  have : (⟨#[48, 48, 48, 48, 48, 48, 48, 48, 48]⟩ : ByteArray).size = 9 := rfl
  omega
theorem pad_text {s : ByteArray} {d : Int} (h : IsI s d) (h0 : 0 ≤ d) (_h1 : d < 1000000000) : ((⟨#[48, 48, 48, 48, 48, 48, 48, 48, 48]⟩ : ByteArray).extract s.size 9 ++ s).toList = pad9 d.toNat := by
  rw [toList_append, toList_extract, show (⟨#[48, 48, 48, 48, 48, 48, 48, 48, 48]⟩ : ByteArray).toList = List.replicate 9 48 from toList_lit _, h.out, h.size, itoa_nonneg h0, Lib.decDigits_length]
  unfold pad9
  rw [List.take_replicate, List.drop_replicate, Nat.min_self]
theorem text_room {f : Nat → Int} {n k : Nat} {F : Bytes} (hF : F.length ≤ 1) (h : InB f 232) (hn : n ≤ 232) : (F ++ Lib.decDigits (tl f n k).toNat).length + 9 ≤ 140737488355328 := by
  rw [List.length_append, Lib.decDigits_length]
  have h0 : tl f n k < PB 232 := by
    unfold tl
    rcases Nat.lt_or_ge k n with hk | hk
    · exact Int.lt_of_lt_of_le (wsum_lt (fun i hi => h (k + i) (by omega))) (PB_le (by omega))
    · rw [Nat.sub_eq_zero_of_le hk, wsum_zero]; exact PB_pos 232
  rw [PB_eq] at h0
  have h1 := nDigits_le_of_lt 2088 (tl f n k).toNat (by omega) (by omega)
  omega
theorem pad_step {f : Nat → Int} {n k : Nat} (h : Norm n f) (hk : k + 1 < n) : Lib.decDigits (tl f n (k + 1)).toNat ++ pad9 (f k).toNat = Lib.decDigits (tl f n k).toNat := by
  have hp := tl_pos h hk
  have hb := h.inb k (by have := h.le; omega)
  rw [← decDigits_pad (by omega) (by omega), tl_step f (k := k) (by omega)]
  congr 1
  omega

set_option maxRecDepth 100000 in
set_option maxHeartbeats 2000000 in
theorem wide_text (p : Nat) (l : Bool) (v : Int) (w : World) (hE : Env w) (hp : Big w p l v) :
    Calls Tryz.prog 127 #[.pointer (some ⟨p, 0, none⟩)] w (NewText (sval l v) w) := by
  obtain ⟨n, f, hw, hN, hv⟩ := hp
  have c0 := hw.c0
  have c1 := hw.c1
  have hn := hN.le
  have hplt := hw.lt
  rcases Nat.eq_zero_or_pos n with h0 | h0
  · subst h0
    have hv0 : v = 0 := by rw [← hv]; rfl
    have g1 : (((0 : Nat) : Int) == 0) = true := rfl
    have Hv := Lib.hid hv0; clear hv0 hv
    go_enter Tryz.func127, Tryz.ntmps127
    go_wp2_with fail
    go_ret
    exact ⟨_, by rw [Hv.out]; unfold IsI Is sval; cases l <;> exact (toList_lit [48]).trans itoa_zero.symm, rfl, Below.refl _ _⟩
  · have g1 : ((n : Int) == 0) = false := by simp; omega
    have hvpos : 0 < v := by rw [← hv, ← tl_zero]; exact tl_pos hN h0
    have Hv := Lib.hid hv; clear hv
    go_enter Tryz.func127, Tryz.ntmps127
    have hnew := builder_new w
    have hnB := (Below.refl w.heap.size w).alloc (Nat.le_refl _) (.cells #[.pointer none, .slice none 0 0] 165)
    have hsz : (w.alloc (.cells #[.pointer none, .slice none 0 0] 165)).heap.size = w.heap.size + 1 := by simp
    obtain ⟨b, hb⟩ : ∃ b, b = w.heap.size := ⟨_, rfl⟩
    have Hb := Lib.hid hb
    cases l
    all_goals go_wp2_with fail
    all_goals (first
      | (go_at_call 153
         refine (writeByte w.heap.size w.heap.size [] 45 _ (.inl hnew) (by simp) (by rw [hsz]; omega)).mono ?_
         rintro e W1 ⟨rfl, hbu0, hB2⟩
         have hB1 := hnB.trans hB2
         have hbu : Lib.IsBuilder 165 5 w.heap.size w.heap.size (Lib.byteCells (front true)) W1 := .inr hbu0
         clear hnew hnB hB2 hsz hbu0
         go_wp2_with fail
         rw [← hb] at hbu hB1 hplt ⊢
         clear hb
         obtain ⟨F, hF⟩ : ∃ F, F = front true := ⟨_, rfl⟩
         have hFt : F ++ Lib.decDigits v.toNat = Lib.itoa (sval true v) := by rw [hF]; exact sval_text hvpos
         have hF1 : F.length ≤ 1 := by rw [hF]; decide
         rw [← hF] at hbu
         clear hF)
      | (have hbu : Lib.IsBuilder 165 5 w.heap.size w.heap.size (Lib.byteCells (front false)) (w.alloc (.cells #[.pointer none, .slice none 0 0] 165)) := .inl hnew
         have hB1 := hnB
         clear hnew hnB hsz
         generalize w.alloc (.cells #[.pointer none, .slice none 0 0] 165) = W1 at *
         rw [← hb] at hbu hB1 hplt ⊢
         clear hb
         obtain ⟨F, hF⟩ : ∃ F, F = front false := ⟨_, rfl⟩
         have hFt : F ++ Lib.decDigits v.toNat = Lib.itoa (sval false v) := by rw [hF]; exact sval_text hvpos
         have hF1 : F.length ≤ 1 := by rw [hF]; decide
         rw [← hF] at hbu
         clear hF))
    all_goals
      have hw1 := hw.below hB1 hplt
      have hE1 : Env W1 := hE.below (by rw [← Hb.out]; exact hB1)
      have hbw : b ≤ W1.heap.size := by have := hB1.size; have := Hb.out; omega
      obtain ⟨m, rfl⟩ : ∃ m, n = m + 1 := ⟨n - 1, by omega⟩
      obtain ⟨a0, a1⟩ := hN.inb m (by omega)
      obtain ⟨a, ha⟩ : ∃ a, a = f m := ⟨_, rfl⟩
      have x1 : W1.cell? ⟨p, 1, none⟩ = some (.int .i64 ((m : Int) + 1)) := by rw [hw1.c1]; rfl
      have x2 := hw1.cw m (by omega)
      rw [← ha] at a0 a1 x2
      have Ha := Lib.hid ha
      have hpos : 0 < a := by
        have := hN.top (by omega)
        rw [Nat.add_sub_cancel, ← ha] at this
        omega
      clear ha c0 c1
      have j0 : (0 : Int) ≤ (m : Int) := by omega
      have j1 : (m : Int) < 232 := by omega
      have jw0 : IntKind.i64.wrap (m : Int) = (m : Int) := by rw [IntKind.wrap_i64]; omega
      have jw : IntKind.i64.wrap ((m : Int) + 1 - 1) = (m : Int) := by rw [IntKind.wrap_i64]; omega
      go_region_held3 (fun w' => w'.cell? ⟨p, 1, none⟩ = some (.int .i64 ((m : Int) + 1)) ∧ w'.cell? ⟨p, 2 + m, none⟩ = some (.int .i64 a)) (go_keep)
        (first
          | (go_at_call 101; refine (strconv_Itoa a (by omega) (by omega) _ (by exact ⟨hE1.tab, hE1.mx⟩)).mono ?_; rintro e w2 ⟨s1, hs1, rfl, hb2⟩; have y1 := (hb2.cell (p := ⟨p, 1, none⟩) hw1.lt).trans x1; have y2 := (hb2.cell (p := ⟨p, 2 + m, none⟩) hw1.lt).trans x2)
          | (go_at_call 154; refine (writeString b b _ s1 _ (by exact isb_below hbu ⟨hb2.os, hb2.tape, hb2.output, hb2.size, hb2.block⟩) (by rw [byteCells_length]; exact front_room hF1 (hs1.size9 a0 a1)) (by have := hb2.size; exact Nat.le_trans hbw this)).mono ?_; rintro e w3 ⟨rfl, hbu3, hb3⟩; have z1 := (hb3.cell (p := ⟨p, 1, none⟩) hplt).trans y1; have z2 := (hb3.cell (p := ⟨p, 2 + m, none⟩) hplt).trans y2))
      have hFT := Lib.hid hFt; clear hFt
      have hB3 : Below b w w3 := (hB1.trans ⟨hb2.os, hb2.tape, hb2.output, hb2.size, fun k hk => hb2.block k (Nat.lt_of_lt_of_le hk hbw)⟩).trans hb3
      have hbu4 : Lib.BuilderAt 165 5 b b (.pointer (some ⟨b, 0, none⟩)) (Lib.byteCells (F ++ Lib.decDigits (tl f (m + 1) m).toNat)) w3 := by
        rw [byteCells_append, hs1.out, itoa_nonneg a0] at hbu3
        rw [tl_step f (by omega), tl_end, ← Ha.out, Int.mul_zero, Int.add_zero]
        exact hbu3
      clear hb2 hb3 y1 y2 z2 hbu3 x1 x2 hbu hw1 hE1 hB1 hs1 jw jw0 j1
      go_wp2_with fail
      go_loopw [4] (fun i wr => ∃ k : Nat, k ≤ m ∧ i = .int .i64 ((k : Int) - 1) ∧ Lib.BuilderAt 165 5 b b (.pointer (some ⟨b, 0, none⟩)) (Lib.byteCells (F ++ Lib.decDigits (tl f (m + 1) k).toNat)) wr ∧ Below b w wr) (fun i _ => (intOf i + 1).toNat)
      case atStart => exact ⟨m, Nat.le_refl _, by go_num, hbu4, hB3⟩
      case round =>
        obtain ⟨k, hk, rfl, hbk, hBk⟩ := hrel
        have hEk : Env wr := hE.below (by rw [← Hb.out]; exact hBk)
        have hwk := hw.below hBk hplt
        cases k with
        | zero =>
          go_wp2_with fail
          have hbr : b ≤ wr.heap.size := by have := hBk.size; have := Hb.out; omega
          refine (Tryz.Builder_String_any b b _ _ (.inr hbk) hbr).mono ?_
          rintro e w5 ⟨rfl, h5⟩
          go_wp2_with fail
          go_ret
          have h6 := hBk.trans h5
          have HbO := Hb.out
          rw [HbO] at h6
          refine ⟨_, ?_, rfl, h6⟩
          rw [tl_zero, Hv.out, hFT.out]
          exact toList_lit _
        | succ j =>
          obtain ⟨d0, d1⟩ := hN.inb j (by omega)
          obtain ⟨d, hd⟩ : ∃ d, d = f j := ⟨_, rfl⟩
          have x2 := hwk.cw j (by omega)
          rw [← hd] at d0 d1 x2
          have Hd := Lib.hid hd; clear hd
          go_wp2_with fail
          refine (strconv_Itoa d (by omega) (by omega) _ (by exact ⟨hEk.tab, hEk.mx⟩)).mono ?_
          rintro e w5 ⟨s2, hs2, rfl, hb5⟩
          have s9 := hs2.size9 d0 d1
          have s10 : (s2.size : Int) ≤ 9 := by omega
          go_wp2_with fail
          have hb5' : Below wr.heap.size wr w5 := ⟨hb5.os, hb5.tape, hb5.output, hb5.size, hb5.block⟩
          have hbr : b ≤ w5.heap.size := by have := hBk.size; have := Hb.out; have := hb5'.size; omega
          refine (writeString b b _ _ _ (.inr (builder_below hbk hb5')) ?len hbr).mono ?_
          case len =>
            rw [byteCells_length, pad_size s9]
            exact text_room hF1 hN.inb hn
          rintro e w6 ⟨rfl, hbu6, hb6⟩
          have hB6 : Below b w w6 := (hBk.trans ⟨hb5'.os, hb5'.tape, hb5'.output, hb5'.size, fun k hk => hb5'.block k (Nat.lt_of_lt_of_le hk (by have := hBk.size; have := Hb.out; omega))⟩).trans hb6
          have hbu7 : Lib.BuilderAt 165 5 b b (.pointer (some ⟨b, 0, none⟩)) (Lib.byteCells (F ++ Lib.decDigits (tl f (m + 1) j).toNat)) w6 := by
            rw [byteCells_append, pad_text hs2 d0 d1, Hd.out, List.append_assoc, pad_step hN (by omega)] at hbu6
            exact hbu6
          go_wp2_with fail
          go_roundw
          case rel => exact ⟨j, by omega, by go_num, hbu7, hB6⟩
          case measure => simp [intOf]

end Go.Proofs.YtgkiaonakiflbaaGreatDoor

/- The contracts of limited, sum, Of, small, Add, Sub, Mul, Neg, Sign. -/
namespace Go.Proofs.YtgkiaonakiflbaaGreatDoor
open Go.RowKit

/-- The error of a number that may be too long, and its text. -/
def limE (z : Int) : Int := if wid z ≤ 1024 then 0 else 11
def limS (z : Int) : Bytes := if wid z ≤ 1024 then Lib.itoa z else []
def Lim (z : Int) (w : World) (e : Ending) (w' : World) : Prop := ∃ c, Is c (limS z) ∧ e = .returned (.tuple #[.string c, .int .i64 (limE z)]) ∧ Below w.heap.size w w'

theorem ret_RSt {c : ByteArray} {a b : Int} (h : a = b) : Ending.returned (.tuple #[.string c, .int .i64 a]) = .returned (.tuple #[.string c, .int .i64 b]) := by rw [h]
theorem Lim.below {z : Int} {w0 w : World} {e : Ending} {w' : World} (h : Lim z w e w') (hb : Below w0.heap.size w0 w) : Lim z w0 e w' := by
  obtain ⟨c, h1, h2, h3⟩ := h
  exact ⟨c, h1, h2, hb.trans (h3.mono hb.size)⟩

theorem wid_size {c : ByteArray} {z : Int} (h : IsI c z) (hz : (z.natAbs : Int) < PB 232) : c.size ≤ 140737488351232 := by
  rw [PB_eq] at hz
  have h1 := nDigits_le_of_lt 2088 z.natAbs (by omega) (by omega)
  have h2 := h.size_le
  have h3 : wid z = Lib.nDigits z.natAbs := rfl
  omega

theorem nat_PB {n j : Nat} (h : Lib.nDigits n ≤ 9 * j) : (n : Int) < PB j := by
  rw [PB_eq]
  exact Int.ofNat_lt.2 (Nat.lt_of_lt_of_le (Lib.lt_pow_nDigits n) (Nat.pow_le_pow_right (by omega) h))
theorem itoa_wid_PB {z : Int} (h : wid z ≤ 1024) : (z.natAbs : Int) < PB 114 := by
  have h3 : wid z = Lib.nDigits z.natAbs := rfl
  exact nat_PB (by omega)

theorem sval_natAbs (l : Bool) {v : Int} (h : 0 ≤ v) : ((sval l v).natAbs : Int) = v := by
  unfold sval; split <;> omega

theorem wide_limited (p : Nat) (z : Int) (w : World) (hE : Env w) (hp : BigZ w p z) :
    Calls Tryz.prog 107 #[.pointer (some ⟨p, 0, none⟩)] w (Lim z w) := by
  obtain ⟨l, v, hb, rfl⟩ := hp
  have hv := hb.bound
  have hv0 := hb.nonneg
  by_cases hw : wid (sval l v) ≤ 1024
  · have e1 : limE (sval l v) = 0 := if_pos hw
    have e2 : limS (sval l v) = Lib.itoa (sval l v) := if_pos hw
    go_enter Tryz.func107, Tryz.ntmps107
    go_wp2_with (go_at_call 127; refine (wide_text p l v _ hE hb).mono ?_; rintro e w1 ⟨c, hc, rfl, hb1⟩; have hcs := wid_size hc (by rw [sval_natAbs l hv0]; exact hv); have g : (chk c.toList != 0) = false := by rw [hc.chk0 hw]; rfl)
    refine (whole_Check c _ hcs).mono ?_
    rintro e w2 ⟨rfl, hb2⟩
    go_wp2_with fail
    go_ret2
    exact ⟨c, by rw [e2]; exact hc, ret_RSt e1.symm, hb1.trans (hb2.mono hb1.size)⟩
  · have e1 : limE (sval l v) = 11 := if_neg hw
    have e2 : limS (sval l v) = [] := if_neg hw
    go_enter Tryz.func107, Tryz.ntmps107
    go_wp2_with (go_at_call 127; refine (wide_text p l v _ hE hb).mono ?_; rintro e w1 ⟨c, hc, rfl, hb1⟩; have hcs := wid_size hc (by rw [sval_natAbs l hv0]; exact hv); have g : (chk c.toList != 0) = true := by rw [hc.chk11 hw]; rfl)
    refine (whole_Check c _ hcs).mono ?_
    rintro e w2 ⟨rfl, hb2⟩
    go_wp2_with fail
    go_ret2
    exact ⟨_, by rw [e2]; exact toList_lit [], ret_RSt (by rw [e1]; exact hc.chk11 hw), hb1.trans (hb2.mono hb1.size)⟩

/-- The sum of a list. -/
def isum : List Int → Int
  | [] => 0
  | z :: t => z + isum t
theorem isum_take (zs : List Int) (k : Nat) (h : k < zs.length) : isum (zs.take (k + 1)) = isum (zs.take k) + zs[k] := by
  induction zs generalizing k with
  | nil => simp at h
  | cons z t ih =>
    cases k with
    | zero => simp [isum]
    | succ k => simp only [List.take_succ_cons, isum, List.getElem_cons_succ]; rw [ih k (by simpa using h)]; omega
theorem isum_bound (zs : List Int) (h : ∀ z ∈ zs, (z.natAbs : Int) < PB 114) : ((isum zs).natAbs : Int) ≤ zs.length * PB 114 := by
  induction zs with
  | nil => simp [isum]
  | cons z t ih =>
    have h1 := ih (fun y hy => h y (List.mem_cons_of_mem _ hy))
    have h2 := h z (List.mem_cons_self ..)
    simp only [isum, List.length_cons]
    have : ((t.length + 1 : Nat) : Int) * PB 114 = t.length * PB 114 + PB 114 := by rw [Int.natCast_add, Int.add_mul]; simp
    omega

theorem big_abs {w : World} {p : Nat} {z : Int} (h : BigZ w p z) : ∃ l, Big w p l z.natAbs ∧ sval l z.natAbs = z := by
  obtain ⟨l, v, hb, rfl⟩ := h
  have h0 := hb.nonneg
  refine ⟨l, ?_, ?_⟩
  · rw [sval_natAbs l h0]; exact hb
  · rw [sval_natAbs l h0]

set_option maxRecDepth 100000 in
set_option maxHeartbeats 1000000 in
theorem whole_sum (b off n c : Nat) (ss : List ByteArray) (zs : List Int) (w : World) (hE : Env w) (hn : zs.length = n) (hl : ss.length = n) (hn1 : n ≤ 4096)
    (hz : ∀ i (h : i < ss.length) (h' : i < zs.length), IsI ss[i] zs[i] ∧ wid zs[i] ≤ 1024) (hr : Row w b off (strs ss)) :
    Calls Tryz.prog 133 #[.slice (some ⟨b, off, none⟩) n c] w (Lim (isum zs) w) := by
  have Hn := Lib.hid hn; have Hl := Lib.hid hl; clear hn hl
  go_enter Tryz.func133, Tryz.ntmps133
  go_wp2_with fail
  have hW : Wide (w.alloc (.cells Tryz.zeroCells136 136)) w.heap.size false 0 (fun _ => 0) := wide_new0 w
  have hB : Below w.heap.size w (w.alloc (.cells Tryz.zeroCells136 136)) := (Below.refl w.heap.size w).alloc (Nat.le_refl _) _
  have hblt := hr.1
  generalize (w.alloc (.cells Tryz.zeroCells136 136)) = W1 at *
  obtain ⟨p, hpp⟩ : ∃ p, p = w.heap.size := ⟨_, rfl⟩
  have hbz : BigZ W1 p 0 := by rw [hpp]; exact hW.big0.z
  rw [← hpp] at hB hblt ⊢
  have Hp := Lib.hid hpp; clear hpp hW
  go_loopw [11] (fun i wr => ∃ k : Nat, k ≤ n ∧ i = .int .i64 k ∧ BigZ wr p (isum (zs.take k)) ∧ Below p w wr) (fun i _ => n - (intOf i).toNat)
  case atStart => exact ⟨0, Nat.zero_le _, rfl, hbz, hB⟩
  case round =>
    obtain ⟨k, hk, rfl, hb, hbr⟩ := hrel
    by_cases hlt : k < n
    · have hk1 : k < ss.length := by have := Hl.out; omega
      have hk2 : k < zs.length := by have := Hn.out; omega
      obtain ⟨hs, hwz⟩ := hz k hk1 hk2
      have hadd := isum_take zs k hk2
      have hcell : wr.cell? ⟨b, off + k, none⟩ = some (.string ss[k]) := by
        have h1 := hr.2 k (by simpa [strs] using hk1)
        have h2 : wr.cell? ⟨b, off + k, none⟩ = w.cell? ⟨b, off + k, none⟩ := hbr.cell hblt
        rw [h2, h1]; simp [strs]
      have hbnd := isum_bound (zs.take k) (fun z hm => itoa_wid_PB (by
        obtain ⟨i, hi, rfl⟩ := List.mem_iff_getElem.1 (List.mem_of_mem_take hm)
        exact (hz i (by have := Hl.out; have := Hn.out; omega) hi).2))
      have hlen : ((zs.take k).length : Int) ≤ 4096 := by rw [List.length_take]; omega
      have hP := PB_pos 114
      have hmul : ((zs.take k).length : Int) * PB 114 ≤ 4096 * PB 114 := Int.mul_le_mul_of_nonneg_right hlen (by omega)
      have hP2 : PB 115 = PB 114 * 1000000000 := PB_succ 114
      have hP3 : PB 115 * 1000000000 ≤ PB 232 := PB_lt (by omega)
      have hz2 := itoa_wid_PB hwz
      generalize ss[k] = s at *
      generalize zs[k] = z at *
      obtain ⟨l, hbl, hsv⟩ := big_abs hb
      generalize isum (zs.take k) = Z at *
      generalize PB 114 = P4 at *
      clear hlen
      have Hadd := Lib.hid hadd; have Hsv := Lib.hid hsv; have HP2 := Lib.hid hP2; clear hadd hsv hP2
      go_wp2_with (first
        | (go_at_call 105; refine (whole_read _ z _ hs hwz).mono ?_; rintro e w2 ⟨q, rfl, hq, hb2, hbq⟩)
        | (go_at_call 150; refine (wide_plus p q (by have := hb.lt; omega) l _ _ _ 115 _ (by omega) (hbl.keep (hb2.block p hb.lt)) hbq (by have := HP2.out; omega) (by have := HP2.out; omega) (by have := HP2.out; omega)).mono ?_; rintro e w3 ⟨rfl, hg3, hz3⟩))
      rw [Hsv.out, sval_abs, ← Hadd.out] at hz3
      go_roundw
      case rel => exact ⟨k + 1, by omega, by go_num, hz3, only_new (hbr.trans (hb2.mono (by have := hbr.size; have := hb.lt; omega))) hg3 (by have := hb.lt; have := hb2.size; omega) (Nat.le_refl _)⟩
      case measure => simp [intOf]; omega
    · have hkn : k = n := by omega
      have hEk : Env wr := hE.below (by rw [← Hp.out]; exact hbr)
      have Hkn := Lib.hid hkn; clear hkn
      go_wp2_with (go_at_call 107; refine (wide_limited p _ _ hEk hb).mono ?_; rintro e w2 ⟨c, hc, rfl, hb2⟩)
      go_ret2
      rw [Hkn.out, List.take_of_length_le (by have := Hn.out; omega)] at hc ⊢
      have HpO := Hp.out
      rw [HpO] at hbr
      exact ⟨c, hc, rfl, hbr.trans (hb2.mono hbr.size)⟩

end Go.Proofs.YtgkiaonakiflbaaGreatDoor

/- The contracts of Of, small, Add, Sub, Mul, Neg, Sign for right integers. -/
namespace Go.Proofs.YtgkiaonakiflbaaGreatDoor
open Go.RowKit

/-- A right integer. -/
structure RI (c : ByteArray) (z : Int) : Prop where
  is : IsI c z
  le : wid z ≤ 1024
theorem RI.size_le {c : ByteArray} {z : Int} (h : RI c z) : c.size ≤ 1025 := by have := h.is.size_le; have := h.le; omega
theorem RI.size_le' {c : ByteArray} {z : Int} (h : RI c z) : c.size ≤ 140737488351232 := by have := h.size_le; omega
theorem RI.chk {c : ByteArray} {z : Int} (h : RI c z) : (chk c.toList != 0) = false := by rw [h.is.chk0 h.le]; rfl
theorem RI.chk2 {c d : ByteArray} {x y : Int} (h : RI c x) (h' : RI d y) : (chk2 c.toList d.toList != 0) = false := by unfold Go.Proofs.YtgkiaonakiflbaaGreatDoor.chk2; rw [if_pos (h.is.chk0 h.le), h'.is.chk0 h'.le]; rfl
theorem RI.of {c : ByteArray} {z : Int} (h : IsI c z) (hw : wid z ≤ 1024) : RI c z := ⟨h, hw⟩
theorem RI.lim {c : ByteArray} {z : Int} (h : Is c (limS z)) (hw : wid z ≤ 1024) : RI c z := ⟨by unfold limS at h; rw [if_pos hw] at h; exact h, hw⟩
theorem RI.neg {c : ByteArray} {z : Int} (h : IsI c (-z)) (hw : wid z ≤ 1024) : RI c (-z) := ⟨h, by unfold wid at *; rw [Int.natAbs_neg]; exact hw⟩
theorem wid_le_of {z : Int} {k : Nat} (hk : 1 ≤ k) (h : z.natAbs < 10 ^ k) : wid z ≤ k := nDigits_le_of_lt k z.natAbs hk h
theorem small_abs {c : ByteArray} {z : Int} (h : IsI c z) (hs : c.size ≤ 9) : -1000000000 < z ∧ z < 1000000000 := by
  have h1 := h.wid_le
  have h2 := Lib.lt_pow_nDigits z.natAbs
  have h3 : (10 : Nat) ^ Lib.nDigits z.natAbs ≤ 10 ^ 9 := Nat.pow_le_pow_right (by omega) (by have : wid z = Lib.nDigits z.natAbs := rfl; omega)
  have : (10 : Nat) ^ 9 = 1000000000 := by decide
  omega
theorem lim_of {z : Int} (h0 : -9223372036854775808 ≤ z) (h1 : z ≤ 9223372036854775807) : wid z ≤ 1024 :=
  Nat.le_trans (wid_le_of (k := 20) (by omega) (by have : (10 : Nat) ^ 20 = 100000000000000000000 := by decide
                                                   omega)) (by omega)
theorem limE0 {z : Int} (h : wid z ≤ 1024) : limE z = 0 := if_pos h
theorem limE11 {z : Int} (h : ¬ wid z ≤ 1024) : limE z = 11 := if_neg h
theorem limS0 {z : Int} (h : wid z ≤ 1024) : limS z = Lib.itoa z := if_pos h

theorem whole_Of (n : Int) (h0 : -9223372036854775808 ≤ n) (h1 : n ≤ 9223372036854775807) (w : World) (hE : Env w) :
    Calls Tryz.prog 53 #[.int .i64 n] w (NewText n w) := by
  go_enter Tryz.func53, Tryz.ntmps53
  go_wp2_with (go_at_call 101; refine (strconv_Itoa n h0 h1 _ hE).mono ?_; rintro e w1 ⟨c, hc, rfl, hb⟩)
  go_ret
  exact ⟨c, hc, rfl, hb⟩

theorem whole_result (n : Int) (h0 : -9223372036854775808 ≤ n) (h1 : n ≤ 9223372036854775807) (w : World) (hE : Env w) :
    Calls Tryz.prog 104 #[.int .i64 n] w (Lim n w) := by
  have hw := lim_of h0 h1
  go_enter Tryz.func104, Tryz.ntmps104
  go_wp2_with (go_at_call 53; refine (whole_Of n h0 h1 _ hE).mono ?_; rintro e w1 ⟨c, hc, rfl, hb⟩)
  go_ret2
  exact ⟨c, by rw [limS0 hw]; exact hc, ret_RSt (limE0 hw).symm, hb⟩

theorem small_yes (a b : ByteArray) (x y : Int) (w : World) (ha : IsI a x) (hb : IsI b y) (h1 : a.size ≤ 9) (h2 : b.size ≤ 9) :
    Calls Tryz.prog 103 #[.string a, .string b] w fun e w' => e = .returned (.tuple #[.int .i64 x, .int .i64 y, .bool true]) ∧ Below w.heap.size w w' := by
  go_enter Tryz.func103, Tryz.ntmps103
  go_wp2_with fail
  refine (atoiNum a x _ ha (by omega)).mono ?_
  rintro e w1 ⟨rfl, hb1⟩
  go_wp2_with fail
  refine (atoiNum b y _ hb (by omega)).mono ?_
  rintro e w2 ⟨rfl, hb2⟩
  go_wp2_with fail
  go_ret3
  exact ⟨rfl, hb1.trans (hb2.mono hb1.size)⟩

theorem small_no (a b : ByteArray) (w : World) (ha : a.size ≤ 140737488351232) (hb : b.size ≤ 140737488351232) (h : 9 < a.size ∨ 9 < b.size) :
    Calls Tryz.prog 103 #[.string a, .string b] w fun e w' => e = .returned (.tuple #[.int .i64 0, .int .i64 0, .bool false]) ∧ w = w' := by
  rcases Nat.lt_or_ge 9 a.size with h1 | h1
  · go_enter Tryz.func103, Tryz.ntmps103
    go_wp2_with fail
    go_ret3
    exact ⟨rfl, rfl⟩
  · have h2 : 9 < b.size := by omega
    go_enter Tryz.func103, Tryz.ntmps103
    go_wp2_with fail
    go_ret3
    exact ⟨rfl, rfl⟩

theorem whole_sum2 (a b : ByteArray) (x y : Int) (w : World) (T : TypeId) (hE : Env w) (ha : RI a x) (hb : RI b y) :
    Calls Tryz.prog 133 #[.slice (some ⟨w.heap.size, 0, none⟩) 2 2] (w.alloc (.cells #[.string a, .string b] T)) (Lim (x + y) w) := by
  refine (whole_sum w.heap.size 0 2 2 [a, b] [x, y] _ (hE.below ((Below.refl _ w).alloc (Nat.le_refl _) _)) rfl rfl (by omega) ?_ (row_new w _ T)).mono ?_
  · intro i h h'
    match i, h with
    | 0, _ => exact ⟨ha.is, ha.le⟩
    | 1, _ => exact ⟨hb.is, hb.le⟩
    | i + 2, h => exact absurd h (by simp)
  · intro e w' h
    have hs : isum [x, y] = x + y := by simp [isum]
    rw [hs] at h
    exact h.below ((Below.refl _ w).alloc (Nat.le_refl _) _)

theorem whole_Add (a b : ByteArray) (x y : Int) (w : World) (hE : Env w) (ha : RI a x) (hb : RI b y) :
    Calls Tryz.prog 111 #[.string a, .string b] w (Lim (x + y) w) := by
  have g := ha.chk2 hb
  by_cases hs : a.size ≤ 9 ∧ b.size ≤ 9
  · have b1 := small_abs ha.is hs.1
    have b2 := small_abs hb.is hs.2
    go_enter Tryz.func111, Tryz.ntmps111
    go_wp2_with (first
      | (go_at_call 102; refine (whole_all2 a b w _ ha.size_le' hb.size_le').mono ?_; rintro e w1 ⟨rfl, hb1⟩)
      | (go_at_call 103; refine (small_yes a b x y _ ha.is hb.is hs.1 hs.2).mono ?_; rintro e w2 ⟨rfl, hb2⟩; have hbb := hb1.trans (hb2.mono hb1.size)))
    refine (whole_result (x + y) (by omega) (by omega) _ (hE.below hbb)).mono ?_
    rintro e w3 ⟨c, hc, rfl, hb3⟩
    go_wp2_with fail
    go_ret2
    exact ⟨c, hc, rfl, hbb.trans (hb3.mono hbb.size)⟩
  · go_enter Tryz.func111, Tryz.ntmps111
    go_wp2_with (first
      | (go_at_call 102; refine (whole_all2 a b w _ ha.size_le' hb.size_le').mono ?_; rintro e w1 ⟨rfl, hb1⟩)
      | (go_at_call 103; refine (small_no a b _ ha.size_le' hb.size_le' (by omega)).mono ?_; rintro e w2 ⟨rfl, rfl⟩))
    refine (whole_sum2 a b x y _ _ (hE.below hb1) ha hb).mono ?_
    rintro e w3 ⟨c, hc, rfl, hb3⟩
    go_wp2_with fail
    go_ret2
    exact ⟨c, hc, rfl, hb1.trans (hb3.mono hb1.size)⟩

theorem whole_Sub (a b : ByteArray) (x y : Int) (w : World) (hE : Env w) (ha : RI a x) (hb : RI b y) :
    Calls Tryz.prog 110 #[.string a, .string b] w (Lim (x - y) w) := by
  have g := ha.chk2 hb
  go_enter Tryz.func110, Tryz.ntmps110
  go_wp2_with (first
    | (go_at_call 102; refine (whole_all2 a b w _ ha.size_le' hb.size_le').mono ?_; rintro e w1 ⟨rfl, hb1⟩)
    | (go_at_call 124; refine (whole_opposite b y _ hb.is hb.size_le').mono ?_; rintro e w2 ⟨d, hd, rfl, rfl⟩))
  refine (whole_Add a d x (-y) _ (hE.below hb1) ha (RI.neg hd hb.le)).mono ?_
  rintro e w3 ⟨c, hc, rfl, hb3⟩
  go_wp2_with fail
  go_ret2
  rw [← Int.sub_eq_add_neg] at hc ⊢
  exact ⟨c, hc, rfl, hb1.trans (hb3.mono hb1.size)⟩

theorem whole_Neg (a : ByteArray) (x : Int) (w : World) (ha : RI a x) :
    Calls Tryz.prog 92 #[.string a] w fun e w' => ∃ c, RI c (-x) ∧ e = .returned (.tuple #[.string c, .int .i64 0]) ∧ Below w.heap.size w w' := by
  have g := ha.chk
  go_enter Tryz.func92, Tryz.ntmps92
  go_wp2_with (first
    | (go_at_call 83; refine (whole_Check a _ ha.size_le').mono ?_; rintro e w1 ⟨rfl, hb1⟩)
    | (go_at_call 124; refine (whole_opposite a x _ ha.is ha.size_le').mono ?_; rintro e w2 ⟨d, hd, rfl, rfl⟩))
  go_ret2
  exact ⟨d, RI.neg hd ha.le, rfl, hb1⟩

theorem whole_Sign (a : ByteArray) (x : Int) (w : World) (ha : RI a x) :
    Calls Tryz.prog 91 #[.string a] w fun e w' => e = .returned (.tuple #[.int .i64 (sgn x), .int .i64 0]) ∧ Below w.heap.size w w' := by
  have g := ha.chk
  go_enter Tryz.func91, Tryz.ntmps91
  go_wp2_with (first
    | (go_at_call 83; refine (whole_Check a _ ha.size_le').mono ?_; rintro e w1 ⟨rfl, hb1⟩)
    | (go_at_call 118; refine (whole_sign a x _ ha.is).mono ?_; rintro e w2 ⟨rfl, rfl⟩))
  go_ret2
  exact ⟨rfl, hb1⟩

theorem mul_small {x y : Int} (hx : -1000000000 < x ∧ x < 1000000000) (hy : -1000000000 < y ∧ y < 1000000000) : -9223372036854775808 ≤ x * y ∧ x * y ≤ 9223372036854775807 := by
  have h1 : (x * y).natAbs = x.natAbs * y.natAbs := Int.natAbs_mul x y
  have h2 : x.natAbs * y.natAbs ≤ 999999999 * 999999999 := Nat.mul_le_mul (by omega) (by omega)
  omega

set_option maxRecDepth 100000 in
theorem whole_Mul (a b : ByteArray) (x y : Int) (w : World) (hE : Env w) (ha : RI a x) (hb : RI b y) :
    Calls Tryz.prog 54 #[.string a, .string b] w (Lim (x * y) w) := by
  have g := ha.chk2 hb
  by_cases hs : a.size ≤ 9 ∧ b.size ≤ 9
  · have b1 := small_abs ha.is hs.1
    have b2 := small_abs hb.is hs.2
    have b3 := mul_small b1 b2
    go_enter Tryz.func54, Tryz.ntmps54
    go_wp2_with (first
      | (go_at_call 102; refine (whole_all2 a b w _ ha.size_le' hb.size_le').mono ?_; rintro e w1 ⟨rfl, hb1⟩)
      | (go_at_call 103; refine (small_yes a b x y _ ha.is hb.is hs.1 hs.2).mono ?_; rintro e w2 ⟨rfl, hb2⟩; have hbb := hb1.trans (hb2.mono hb1.size)))
    refine (whole_result (x * y) b3.1 b3.2 _ (hE.below hbb)).mono ?_
    rintro e w3 ⟨c, hc, rfl, hb3⟩
    go_wp2_with fail
    go_ret2
    exact ⟨c, hc, rfl, hbb.trans (hb3.mono hbb.size)⟩
  · have hX := itoa_wid_PB ha.le
    have hY := itoa_wid_PB hb.le
    go_enter Tryz.func54, Tryz.ntmps54
    go_wp2_with (first
      | (go_at_call 102; refine (whole_all2 a b w _ ha.size_le' hb.size_le').mono ?_; rintro e w1 ⟨rfl, hb1⟩)
      | (go_at_call 103; refine (small_no a b _ ha.size_le' hb.size_le' (by omega)).mono ?_; rintro e w2 ⟨rfl, rfl⟩))
    refine (whole_read a x _ ha.is ha.le).mono ?_
    rintro e w3 ⟨p, rfl, hp, hb3, hbp⟩
    go_wp2_with fail
    refine (whole_read b y _ hb.is hb.le).mono ?_
    rintro e w4 ⟨q, rfl, hq, hb4, hbq⟩
    go_wp2_with fail
    refine (wide_times p q _ _ _ _ 114 _ (by omega) (hbp.keep (hb4.block p hbp.lt)) hbq hX hY).mono ?_
    rintro e w5 ⟨r, rfl, hr, hb5, hbr⟩
    rw [sval_abs, sval_abs] at hbr
    have hB3 := hb1.trans (hb3.mono hb1.size)
    have hB4 := hB3.trans (hb4.mono hB3.size)
    have hB5 := hB4.trans (hb5.mono hB4.size)
    go_wp2_with fail
    refine (wide_limited r _ _ (hE.below hB5) hbr).mono ?_
    rintro e w6 ⟨c, hc, rfl, hb6⟩
    go_wp2_with fail
    go_ret2
    exact ⟨c, hc, rfl, hB5.trans (hb6.mono hB5.size)⟩

end Go.Proofs.YtgkiaonakiflbaaGreatDoor

/- The contracts of parted and Quo for right integers. -/
namespace Go.Proofs.YtgkiaonakiflbaaGreatDoor
open Go.RowKit

theorem part_unique {x y q r : Int} (h : x = q * y + r) (hr : (0 ≤ r ∧ r < y) ∨ (y < r ∧ r ≤ 0)) : x.fdiv y = q ∧ x.fmod y = r := by
  have hy : y ≠ 0 := by omega
  have h1 := Int.mul_fdiv_add_fmod x y
  have h2 : (0 ≤ x.fmod y ∧ x.fmod y < y) ∨ (y < x.fmod y ∧ x.fmod y ≤ 0) := by
    rcases Int.lt_or_le 0 y with h0 | h0
    · exact .inl ⟨Int.fmod_nonneg_of_pos x h0, Int.fmod_lt_of_pos x h0⟩
    · refine .inr ?_
      have e1 := Int.emod_nonneg x hy
      have e2 : x % y < -y := by
        have := Int.emod_lt_of_pos x (show 0 < -y by omega)
        rw [Int.emod_neg] at this; exact this
      rw [Int.fmod_eq_emod]
      split
      · rename_i hd
        rcases hd with hd | hd
        · omega
        · rw [Int.emod_eq_zero_of_dvd hd]; omega
      · rename_i hd
        have : x % y ≠ 0 := fun e => hd (.inr (Int.dvd_of_emod_eq_zero e))
        omega
  generalize x.fdiv y = Q at *
  generalize x.fmod y = R at *
  have hd : (Q - q) * y = r - R := by rw [Int.sub_mul, Int.mul_comm Q y]; omega
  rcases Int.lt_trichotomy Q q with h | h | h
  · exfalso
    have h4 : Q - q ≤ -1 := by omega
    rcases h2 with h2 | h2
    · have := Int.mul_le_mul_of_nonneg_right h4 (show 0 ≤ y by omega); omega
    · have := Int.mul_le_mul_of_nonpos_right h4 (show y ≤ 0 by omega); omega
  · subst h; simp at hd; omega
  · exfalso
    have h4 : 1 ≤ Q - q := by omega
    rcases h2 with h2 | h2
    · have := Int.mul_le_mul_of_nonneg_right h4 (show 0 ≤ y by omega); omega
    · have := Int.mul_le_mul_of_nonpos_right h4 (show y ≤ 0 by omega); omega

theorem tquot (x y : Int) (hy : y ≠ 0) : x = x.tdiv y * y + x.tmod y ∧ (x.tmod y).natAbs < y.natAbs ∧ (0 ≤ x → 0 ≤ x.tmod y) ∧ (x ≤ 0 → x.tmod y ≤ 0) ∧ (x.tdiv y).natAbs ≤ x.natAbs := by
  refine ⟨?_, ?_, ?_, ?_, ?_⟩
  · have := Int.mul_tdiv_add_tmod x y; rw [Int.mul_comm]; omega
  · rw [Int.natAbs_tmod]; exact Nat.mod_lt _ (by omega)
  · intro h; exact Int.tmod_nonneg y h
  · intro h
    have := Int.tmod_nonneg y (show 0 ≤ -x by omega)
    rw [Int.neg_tmod] at this; omega
  · rw [Int.natAbs_tdiv]; exact Nat.div_le_self _ _

/-- The quotient and the remainder, as texts. -/
def Parted2 (x y : Int) (w : World) (e : Ending) (w' : World) : Prop :=
  ∃ c d, IsI c (x.fdiv y) ∧ IsI d (x.fmod y) ∧ e = .returned (.tuple #[.string c, .string d, .int .i64 0]) ∧ Below w.heap.size w w'

theorem small_part {x y : Int} (hx : -1000000000 < x ∧ x < 1000000000) (hy : -1000000000 < y ∧ y < 1000000000) (h : y ≠ 0) :
    -1000000000 < x.tdiv y ∧ x.tdiv y < 1000000000 ∧ -1000000000 < x.tmod y ∧ x.tmod y < 1000000000 ∧
    ((x.tmod y = 0 ∨ (x.tmod y < 0 ↔ y < 0)) → x.fdiv y = x.tdiv y ∧ x.fmod y = x.tmod y) ∧
    (x.tmod y ≠ 0 → ¬ (x.tmod y < 0 ↔ y < 0) → x.fdiv y = x.tdiv y - 1 ∧ x.fmod y = x.tmod y + y) := by
  obtain ⟨h1, h2, h3, h4, h5⟩ := tquot x y h
  refine ⟨by omega, by omega, by omega, by omega, fun hr => part_unique h1 (by omega), fun hr hs => part_unique ?_ (by omega)⟩
  rw [Int.sub_mul]; omega

set_option maxRecDepth 100000 in
theorem parted_small (a b : ByteArray) (x y : Int) (w : World) (hE : Env w) (ha : RI a x) (hb : RI b y) (hy : y ≠ 0) (hs : a.size ≤ 9 ∧ b.size ≤ 9) :
    Calls Tryz.prog 125 #[.string a, .string b] w (Parted2 x y w) := by
  have g := ha.chk2 hb
  have g0 := hb.is.not_zero hy
  have b1 := small_abs ha.is hs.1
  have b2 := small_abs hb.is hs.2
  obtain ⟨q0, q1, r0, r1, p1, p2⟩ := small_part b1 b2 hy
  have P1 := Lib.hid p1; have P2 := Lib.hid p2; clear p1 p2
  have y0 : (y == 0) = false := by simp [hy]
  go_enter Tryz.func125, Tryz.ntmps125
  go_wp2_with (first
    | (go_at_call 102; refine (whole_all2 a b w _ ha.size_le' hb.size_le').mono ?_; rintro e w1 ⟨rfl, hb1⟩)
    | (go_at_call 103; refine (small_yes a b x y _ ha.is hb.is hs.1 hs.2).mono ?_; rintro e w2 ⟨rfl, hb2⟩; have hbb := hb1.trans (hb2.mono hb1.size)))
  go_quiet (fail)
  generalize hq : x.tdiv y = q at *
  generalize hr : x.tmod y = r at *
  have Hq := Lib.hid hq; have Hr := Lib.hid hr; clear hq hr
  have key : ∃ Q R : Int, -9223372036854775808 ≤ Q ∧ Q ≤ 9223372036854775807 ∧ -9223372036854775808 ≤ R ∧ R ≤ 9223372036854775807 ∧ Hid (x.fdiv y = Q) ∧ Hid (x.fmod y = R) ∧
      (((r != 0) = false ∧ Q = q ∧ R = r) ∨ ((r != 0) = true ∧ (decide (r < 0) == decide (y < 0)) = true ∧ Q = q ∧ R = r) ∨ ((r != 0) = true ∧ (decide (r < 0) == decide (y < 0)) = false ∧ Q = q - 1 ∧ R = r + y)) := by
    rcases Classical.em (r = 0) with h | h
    · have e := P1.out (.inl h)
      exact ⟨q, r, by omega, by omega, by omega, by omega, e.1, e.2, .inl ⟨by simp [h], rfl, rfl⟩⟩
    · rcases Classical.em (r < 0 ↔ y < 0) with h2 | h2
      · have e := P1.out (.inr h2)
        exact ⟨q, r, by omega, by omega, by omega, by omega, e.1, e.2, .inr (.inl ⟨by simp [h], by simp [h2], rfl, rfl⟩)⟩
      · have e := P2.out h h2
        exact ⟨q - 1, r + y, by omega, by omega, by omega, by omega, e.1, e.2, .inr (.inr ⟨by simp [h], by rw [beq_eq_false_iff_ne, ne_eq, decide_eq_decide]; exact h2, rfl, rfl⟩)⟩
  obtain ⟨Q, R, k0, k1, k2, k3, HQ, HR, key⟩ := key
  clear P1 P2 Hq Hr
  rcases key with ⟨t1, e1, e2⟩ | ⟨t1, t2, e1, e2⟩ | ⟨t1, t2, e1, e2⟩
  all_goals
    subst e1
    subst e2
    go_wp2_with fail
    refine Calls.mono (whole_Of _ k0 k1 _ ⟨(hE.below hbb).tab, (hE.below hbb).mx⟩) ?_
    rintro e w3 ⟨c, hc, rfl, hb3⟩
    have hB3 : Below w.heap.size w w3 := (below_drewN hbb nq).trans (hb3.mono hbb.size)
    go_wp2_with fail
    refine Calls.mono (whole_Of _ k2 k3 _ (hE.below hB3)) ?_
    rintro e w4 ⟨d, hd, rfl, hb4⟩
    go_wp2_with fail
    go_ret3
    exact ⟨c, d, hc.cast HQ.out.symm, hd.cast HR.out.symm, rfl, hB3.trans (hb4.mono hB3.size)⟩

theorem Big.set0 {w : World} {p : Nat} {l : Bool} {v : Int} (h : Big w p l v) (l' : Bool) : Big (w.setCell ⟨p, 0, none⟩ (.bool l')) p l' v := by
  obtain ⟨n, f, h1, h2⟩ := h; exact ⟨n, f, h1.set0 l', h2⟩
theorem Big.setOther {w : World} {p : Nat} {l : Bool} {v : Int} (h : Big w p l v) {a : Addr} (ha : p ≠ a.block) (u : Value) : Big (w.setCell a u) p l v := h.keep (Below.heap_setCell w a u p ha)
theorem Big.c0 {w : World} {p : Nat} {l : Bool} {v : Int} (h : Big w p l v) : w.cell? ⟨p, 0, none⟩ = some (.bool l) := by obtain ⟨n, f, h, _⟩ := h; exact h.c0
theorem Big.frozen {w : World} {p : Nat} {l : Bool} {v : Int} (h : Big w p l v) (i : Nat) : w.frozen? ⟨p, i, none⟩ = false := by obtain ⟨n, f, h, _⟩ := h; exact h.frozen i
/-- The number of words. -/
theorem Big.c1 {w : World} {p : Nat} {l : Bool} {v : Int} (h : Big w p l v) : ∃ n : Nat, w.cell? ⟨p, 1, none⟩ = some (.int .i64 n) ∧ (n = 0 ↔ v = 0) ∧ (n ≤ 1 → v < 1000000000) ∧ n ≤ 232 := by
  obtain ⟨n, f, h, hn, rfl⟩ := h
  refine ⟨n, h.c1, ?_, ?_, hn.le⟩
  · constructor
    · intro e; subst e; rfl
    · intro e
      rcases Nat.eq_zero_or_pos n with h0 | h0
      · exact h0
      · have := hn.ge h0
        have := PB_pos (n - 1)
        omega
  · intro e
    have h1 := hn.lt
    have h2 := PB_le e
    have h3 : PB 1 = 1000000000 := by rw [show 1 = 0 + 1 from rfl, PB_succ, PB_zero]; rfl
    omega

theorem wide_one0 (w : World) : Wide (w.alloc (.cells ((Tryz.zeroCells136.setIfInBounds 0 (.bool true)).setIfInBounds 1 (.int .i64 1)) 136)) w.heap.size true 1 (fun _ => 0) := by
  rw [zeroCells_wide]
  refine ⟨_, heap_alloc_new w _, by simpa using wc0_size, ?_, ?_, fun i hi => ?_⟩
  · rw [Array.getElem?_setIfInBounds, if_neg (by omega), Array.getElem?_setIfInBounds, if_pos rfl, if_pos (by rw [wc0_size]; omega)]
  · rw [Array.getElem?_setIfInBounds, if_pos rfl, if_pos (by rw [Array.size_setIfInBounds, wc0_size]; omega)]
  · rw [Array.getElem?_setIfInBounds, if_neg (by omega), Array.getElem?_setIfInBounds, if_neg (by omega)]; exact wc0_word i hi
theorem wide_one (w : World) : Big ((w.alloc (.cells ((Tryz.zeroCells136.setIfInBounds 0 (.bool true)).setIfInBounds 1 (.int .i64 1)) 136)).setCell ⟨w.heap.size, 2, none⟩ (.int .i64 1)) w.heap.size true 1 := by
  have h2 := (wide_one0 w).setw 0 (by omega) 1
  refine ⟨1, upd (fun _ => 0) 0 1, h2, ⟨by omega, ?_, ?_, ?_⟩, ?_⟩
  · intro i _; rw [show upd (fun _ => 0) 0 1 i = if i = 0 then 1 else 0 from rfl]; split <;> omega
  · intro i h1 h2; unfold upd; rw [if_neg (by omega)]
  · intro _; unfold upd; simp
  · rw [wsum_succ, wsum_zero, PB_zero]; unfold upd; simp

theorem natAbs_parts (x y : Int) (hy : y ≠ 0) : 0 ≤ (x.natAbs : Int) / y.natAbs ∧ (x.natAbs : Int) / y.natAbs ≤ x.natAbs ∧ 0 ≤ (x.natAbs : Int) % y.natAbs ∧ (x.natAbs : Int) % y.natAbs < y.natAbs ∧
    ((x.natAbs : Int) % y.natAbs = 0 ∨ (decide (x < 0) == decide (y < 0)) = true → x.fdiv y = sval (!(decide (x < 0) == decide (y < 0))) ((x.natAbs : Int) / y.natAbs) ∧ x.fmod y = sval (decide (x < 0)) ((x.natAbs : Int) % y.natAbs)) ∧
    ((x.natAbs : Int) % y.natAbs ≠ 0 → (decide (x < 0) == decide (y < 0)) = false → x.fdiv y = -((x.natAbs : Int) / y.natAbs) + -1 ∧ x.fmod y = sval (decide (x < 0)) ((x.natAbs : Int) % y.natAbs) + y) := by
  have h0 : (0 : Int) < y.natAbs := by omega
  have h1 := Int.mul_ediv_add_emod (x.natAbs : Int) y.natAbs
  have h2 := Int.emod_nonneg (x.natAbs : Int) (show (y.natAbs : Int) ≠ 0 by omega)
  have h3 := Int.emod_lt_of_pos (x.natAbs : Int) h0
  have h4 : 0 ≤ (x.natAbs : Int) / y.natAbs := Int.ediv_nonneg (by omega) (by omega)
  have h5 : (x.natAbs : Int) / y.natAbs ≤ x.natAbs := Int.ediv_le_self _ (by omega)
  generalize (x.natAbs : Int) / y.natAbs = Q at *
  generalize (x.natAbs : Int) % y.natAbs = R at *
  refine ⟨h4, h5, h2, h3, fun h => ?_, fun h g => ?_⟩
  · rcases Int.lt_or_le x 0 with hx | hx <;> rcases Int.lt_or_le y 0 with hl | hl
    · have e1 : (x.natAbs : Int) = -x := by omega
      have e2 : (y.natAbs : Int) = -y := by omega
      have d1 : decide (x < 0) = true := by simp [hx]
      have d2 : decide (y < 0) = true := by simp [hl]
      rw [d1, d2]
      refine part_unique ?_ ?_
      · simp [sval]; rw [e1, e2, Int.neg_mul, Int.mul_comm] at h1; omega
      · simp [sval]; omega
    · have e1 : (x.natAbs : Int) = -x := by omega
      have e2 : (y.natAbs : Int) = y := by omega
      have d1 : decide (x < 0) = true := by simp [hx]
      have d2 : decide (y < 0) = false := by simp; omega
      rw [d1, d2] at h ⊢
      refine part_unique ?_ ?_
      · simp [sval, Int.neg_mul]; rw [e1, e2, Int.mul_comm] at h1; omega
      · simp [sval] at h ⊢; omega
    · have e1 : (x.natAbs : Int) = x := by omega
      have e2 : (y.natAbs : Int) = -y := by omega
      have d1 : decide (x < 0) = false := by simp; omega
      have d2 : decide (y < 0) = true := by simp [hl]
      rw [d1, d2] at h ⊢
      refine part_unique ?_ ?_
      · simp [sval, Int.neg_mul]; rw [e1, e2, Int.neg_mul, Int.mul_comm] at h1; omega
      · simp [sval] at h ⊢; omega
    · have e1 : (x.natAbs : Int) = x := by omega
      have e2 : (y.natAbs : Int) = y := by omega
      have d1 : decide (x < 0) = false := by simp; omega
      have d2 : decide (y < 0) = false := by simp; omega
      rw [d1, d2]
      refine part_unique ?_ ?_
      · simp [sval]; rw [e1, e2, Int.mul_comm] at h1; omega
      · simp [sval]; omega
  · rcases Int.lt_or_le x 0 with hx | hx <;> rcases Int.lt_or_le y 0 with hl | hl
    · exfalso; simp [hx, hl] at g
    · have e1 : (x.natAbs : Int) = -x := by omega
      have e2 : (y.natAbs : Int) = y := by omega
      have d1 : decide (x < 0) = true := by simp [hx]
      rw [d1]
      refine part_unique ?_ ?_
      · simp only [sval, Int.add_mul, Int.neg_mul, if_true]; rw [e1, e2, Int.mul_comm] at h1; omega
      · simp [sval]; omega
    · have e1 : (x.natAbs : Int) = x := by omega
      have e2 : (y.natAbs : Int) = -y := by omega
      have d1 : decide (x < 0) = false := by simp; omega
      rw [d1]
      refine part_unique ?_ ?_
      · simp only [sval, Int.add_mul, Int.neg_mul, if_false, Bool.false_eq_true]; rw [e1, e2, Int.neg_mul, Int.mul_comm] at h1; omega
      · simp [sval]; omega
    · exfalso
      have d1 : decide (x < 0) = false := by simp; omega
      have d2 : decide (y < 0) = false := by simp; omega
      rw [d1, d2] at g; simp at g

/-- Two texts. -/
theorem part_end {x y : Int} {w w' w3 w4 : World} {c d : ByteArray} {Q R : Int} (hB : Below w.heap.size w w') (hc : IsI c Q) (hd : IsI d R) (hQ : x.fdiv y = Q) (hR : x.fmod y = R) (h3 : Below w'.heap.size w' w3) (h4 : Below w3.heap.size w3 w4) :
    Parted2 x y w (.returned (.tuple #[.string c, .string d, .int .i64 0])) w4 :=
  ⟨c, d, hc.cast hQ.symm, hd.cast hR.symm, rfl, by
    have h5 := hB.trans (h3.mono hB.size)
    exact h5.trans (h4.mono h5.size)⟩

set_option maxRecDepth 100000 in
set_option maxHeartbeats 1000000 in
theorem parted_long (a b : ByteArray) (x y : Int) (w : World) (hE : Env w) (ha : RI a x) (hb : RI b y) (hy : y ≠ 0) (hs : ¬ (a.size ≤ 9 ∧ b.size ≤ 9)) :
    Calls Tryz.prog 125 #[.string a, .string b] w (Parted2 x y w) := by
  have g := ha.chk2 hb
  have g0 := hb.is.not_zero hy
  have hX := itoa_wid_PB ha.le
  have hY := itoa_wid_PB hb.le
  go_enter Tryz.func125, Tryz.ntmps125
  go_wp2_with (first
    | (go_at_call 102; refine (whole_all2 a b w _ ha.size_le' hb.size_le').mono ?_; rintro e w1 ⟨rfl, hb1⟩)
    | (go_at_call 103; refine (small_no a b _ ha.size_le' hb.size_le' (by omega)).mono ?_; rintro e w2 ⟨rfl, rfl⟩))
  refine (whole_read a x _ ha.is ha.le).mono ?_
  rintro e w3 ⟨p, rfl, hp, hb3, hbp⟩
  go_wp2_with fail
  refine (whole_read b y _ hb.is hb.le).mono ?_
  rintro e w4 ⟨q, rfl, hq, hb4, hbq⟩
  have hbp4 := hbp.belowAll hb4
  have hB3 := hb1.trans (hb3.mono hb1.size)
  have hB4 := hB3.trans (hb4.mono hB3.size)
  go_wp2_with fail
  refine (wide_divided p q _ _ _ _ 114 _ (by omega) hbp4 hbq (by omega) hY).mono ?_
  rintro e w5 ⟨u, v, rfl, huv, hu, hv, hb5, hbu, hbv⟩
  have hbp5 := hbp4.belowAll hb5
  have hbq5 := hbq.belowAll hb5
  have hB5 := hB4.trans (hb5.mono hB4.size)
  have lp := hbp.lt
  have lq := hbq.lt
  have lp4 := hbp4.lt
  have c1 := hbp5.c0
  have c2 := hbq5.c0
  have c3 := hbu.c0
  have c4 := hbv.c0
  have f1 := hbu.frozen 0
  have f2 := hbv.frozen 0
  go_wp2_with fail
  go_region
  have hbu6 : Big ((w5.setCell ⟨u, 0, none⟩ (.bool !decide (x < 0) == decide (y < 0))).setCell ⟨v, 0, none⟩ (.bool (decide (x < 0)))).drew u (!decide (x < 0) == decide (y < 0)) ((x.natAbs : Int) / y.natAbs) := (hbu.set0 _).setOther (a := ⟨v, 0, none⟩) huv _
  have hbv6 : Big ((w5.setCell ⟨u, 0, none⟩ (.bool !decide (x < 0) == decide (y < 0))).setCell ⟨v, 0, none⟩ (.bool (decide (x < 0)))).drew v (decide (x < 0)) ((x.natAbs : Int) % y.natAbs) := (hbv.setOther (a := ⟨u, 0, none⟩) (fun e => huv e.symm) _).set0 _
  have hbp6 : Big ((w5.setCell ⟨u, 0, none⟩ (.bool !decide (x < 0) == decide (y < 0))).setCell ⟨v, 0, none⟩ (.bool (decide (x < 0)))).drew p (decide (x < 0)) x.natAbs := (hbp5.setOther (a := ⟨u, 0, none⟩) (by show p ≠ u; omega) _).setOther (a := ⟨v, 0, none⟩) (by show p ≠ v; omega) _
  have hbq6 : Big ((w5.setCell ⟨u, 0, none⟩ (.bool !decide (x < 0) == decide (y < 0))).setCell ⟨v, 0, none⟩ (.bool (decide (x < 0)))).drew q (decide (y < 0)) y.natAbs := (hbq5.setOther (a := ⟨u, 0, none⟩) (by show q ≠ u; omega) _).setOther (a := ⟨v, 0, none⟩) (by show q ≠ v; omega) _
  have hs4 := hB4.size
  have hB6 : Below w.heap.size w ((w5.setCell ⟨u, 0, none⟩ (.bool !decide (x < 0) == decide (y < 0))).setCell ⟨v, 0, none⟩ (.bool (decide (x < 0)))).drew := ((hB5.setCell (p := ⟨u, 0, none⟩) (by show w.heap.size ≤ u; omega) _).setCell (p := ⟨v, 0, none⟩) (by show w.heap.size ≤ v; omega) _).drew
  generalize ((w5.setCell ⟨u, 0, none⟩ (.bool !decide (x < 0) == decide (y < 0))).setCell ⟨v, 0, none⟩ (.bool (decide (x < 0)))).drew = w6 at *
  clear c1 c2 c3 c4 f1 f2 hbp hbq hbp4 hbp5 hbq5 hbu hbv hb5 hb4 hb3 hb1 hB3 hB4 hB5
  obtain ⟨nv, cv, hv0, _, hv2⟩ := hbv6.c1
  have c1 := hbp6.c0
  have c2 := hbq6.c0
  obtain ⟨k1, k2, k3, k4, k5, k6⟩ := natAbs_parts x y hy
  have hP := PB_pos 114
  have hP2 : PB 115 = PB 114 * 1000000000 := PB_succ 114
  have hP3 : PB 115 * 1000000000 ≤ PB 232 := PB_lt (by omega)
  generalize hQ : (x.natAbs : Int) / y.natAbs = Q at *
  generalize hR : (x.natAbs : Int) % y.natAbs = R at *
  have HQ := Lib.hid hQ; have HR := Lib.hid hR; clear hQ hR
  by_cases hc : R = 0 ∨ (decide (x < 0) == decide (y < 0)) = true
  · obtain ⟨e1, e2⟩ := k5 hc
    have E1 := Lib.hid e1; have E2 := Lib.hid e2; clear e1 e2 k5 k6
    have fin : ∀ n, Calls Tryz.prog 127 #[.pointer (some ⟨u, 0, none⟩)] (w6.drewN n) fun e w' => ∃ c, IsI c (x.fdiv y) ∧ e = .returned (.string c) ∧ Below w6.heap.size w6 w' ∧ Big w' v (decide (x < 0)) R := by
      intro n
      refine (wide_text u _ Q (w6.drewN n) ⟨(hE.below hB6).tab, (hE.below hB6).mx⟩ hbu6).mono ?_
      rintro e w' ⟨c, hc, rfl, hb⟩
      have hb' : Below w6.heap.size w6 w' := ⟨hb.os, hb.tape, hb.output, hb.size, hb.block⟩
      exact ⟨c, hc.cast E1.out.symm, rfl, hb', hbv6.belowAll hb'⟩
    rcases hc with hc | hc
    · have t1 : decide ((0 : Int) < (nv : Int)) = false := by have := hv0.2 hc; simp [this]
      have t2 : decide (0 < nv) = false := by have := hv0.2 hc; simp [this]
      have Hc := Lib.hid hc; clear hc
      go_wp2_with fail
      go_quiet (fail)
      go_wp2_with fail
      refine (fin _).mono ?_
      rintro e w7 ⟨c, hc, rfl, hb7, hbv7⟩
      have hB7 := hB6.trans (hb7.mono hB6.size)
      go_wp2_with fail
      refine (wide_text v _ R _ (hE.below hB7) hbv7).mono ?_
      rintro e w8 ⟨d, hd, rfl, hb8⟩
      go_wp2_with fail
      go_ret3
      exact part_end hB7 hc hd rfl E2.out (Below.refl _ _) hb8
    · rcases Nat.eq_zero_or_pos nv with hz | hz
      · have t1 : decide ((0 : Int) < (nv : Int)) = false := by simp [hz]
        have t2 : decide (0 < nv) = false := by simp [hz]
        clear hz
        go_wp2_with fail
        go_quiet (fail)
        go_wp2_with fail
        refine (fin _).mono ?_
        rintro e w7 ⟨c, hc, rfl, hb7, hbv7⟩
        have hB7 := hB6.trans (hb7.mono hB6.size)
        go_wp2_with fail
        refine (wide_text v _ R _ (hE.below hB7) hbv7).mono ?_
        rintro e w8 ⟨d, hd, rfl, hb8⟩
        go_wp2_with fail
        go_ret3
        exact part_end hB7 hc hd rfl E2.out (Below.refl _ _) hb8
      · have t1 : decide ((0 : Int) < (nv : Int)) = true := by simp; omega
        have t2 : decide (0 < nv) = true := by simp; omega
        clear hz
        go_wp2_with fail
        go_quiet (fail)
        go_wp2_with fail
        refine (fin _).mono ?_
        rintro e w7 ⟨c, hc, rfl, hb7, hbv7⟩
        have hB7 := hB6.trans (hb7.mono hB6.size)
        go_wp2_with fail
        refine (wide_text v _ R _ (hE.below hB7) hbv7).mono ?_
        rintro e w8 ⟨d, hd, rfl, hb8⟩
        go_wp2_with fail
        go_ret3
        exact part_end hB7 hc hd rfl E2.out (Below.refl _ _) hb8
  · have hc1 : R ≠ 0 := fun e => hc (.inl e)
    have hc2 : (decide (x < 0) == decide (y < 0)) = false := by
      rw [Bool.eq_false_iff]; exact fun e => hc (.inr e)
    obtain ⟨e1, e2⟩ := k6 hc1 hc2
    have E1 := Lib.hid e1; have E2 := Lib.hid e2; clear e1 e2 k5 k6 hc
    have t1 : decide ((0 : Int) < (nv : Int)) = true := by
      have : nv ≠ 0 := fun e => hc1 (hv0.1 e)
      simp; omega
    have t2 : decide (0 < nv) = true := by
      have : nv ≠ 0 := fun e => hc1 (hv0.1 e)
      simp; omega
    have fu := hbu6.frozen 0
    have cu := hbu6.c0
    have lu6 := hbu6.lt
    go_wp2_with fail
    go_quiet (fail)
    have hu7 : Big ((w6.drewN nq).alloc (.cells ((Tryz.zeroCells136.setIfInBounds 0 (.bool true)).setIfInBounds 1 (.int .i64 1)) 136)) u (!decide (x < 0) == decide (y < 0)) Q := hbu6.keep (Below.heap_alloc (w6.drewN nq) _ u lu6)
    have cu7 := hu7.c0
    have fu7 := hu7.frozen 0
    have ho7 := wide_one (w6.drewN nq)
    have co7 : ((w6.drewN nq).alloc (.cells ((Tryz.zeroCells136.setIfInBounds 0 (.bool true)).setIfInBounds 1 (.int .i64 1)) 136)).cell? ⟨w6.heap.size, 2, none⟩ = some (.int .i64 0) := (wide_one0 (w6.drewN nq)).cw 0 (by omega)
    have fo7 : ((w6.drewN nq).alloc (.cells ((Tryz.zeroCells136.setIfInBounds 0 (.bool true)).setIfInBounds 1 (.int .i64 1)) 136)).frozen? ⟨w6.heap.size, 2, none⟩ = false := (wide_one0 (w6.drewN nq)).frozen 2
    have hv7 : Big ((w6.drewN nq).alloc (.cells ((Tryz.zeroCells136.setIfInBounds 0 (.bool true)).setIfInBounds 1 (.int .i64 1)) 136)) v (decide (x < 0)) R := hbv6.keep (Below.heap_alloc (w6.drewN nq) _ v hbv6.lt)
    have hq7 : Big ((w6.drewN nq).alloc (.cells ((Tryz.zeroCells136.setIfInBounds 0 (.bool true)).setIfInBounds 1 (.int .i64 1)) 136)) q (decide (y < 0)) y.natAbs := hbq6.keep (Below.heap_alloc (w6.drewN nq) _ q hbq6.lt)
    have hB7 : Below w.heap.size w ((w6.drewN nq).alloc (.cells ((Tryz.zeroCells136.setIfInBounds 0 (.bool true)).setIfInBounds 1 (.int .i64 1)) 136)) := (below_drewN hB6 nq).alloc hB6.size _
    have lv6 := hbv6.lt
    have lq6 := hbq6.lt
    have hne : w6.heap.size ≠ u := by omega
    go_wp2_with fail
    have hb8 : Below w.heap.size w ((((w6.drewN nq).alloc (.cells ((Tryz.zeroCells136.setIfInBounds 0 (.bool true)).setIfInBounds 1 (.int .i64 1)) 136)).setCell ⟨w6.heap.size, 2, none⟩ (.int .i64 1)).setCell ⟨u, 0, none⟩ (.bool true)) := (hB7.setCell (p := ⟨w6.heap.size, 2, none⟩) hB6.size _).setCell (p := ⟨u, 0, none⟩) (by show w.heap.size ≤ u; omega) _
    have hu8 : Big ((((w6.drewN nq).alloc (.cells ((Tryz.zeroCells136.setIfInBounds 0 (.bool true)).setIfInBounds 1 (.int .i64 1)) 136)).setCell ⟨w6.heap.size, 2, none⟩ (.int .i64 1)).setCell ⟨u, 0, none⟩ (.bool true)) u true Q := (hu7.setOther (a := ⟨w6.heap.size, 2, none⟩) (by show u ≠ w6.heap.size; omega) _).set0 true
    have ho8 : Big ((((w6.drewN nq).alloc (.cells ((Tryz.zeroCells136.setIfInBounds 0 (.bool true)).setIfInBounds 1 (.int .i64 1)) 136)).setCell ⟨w6.heap.size, 2, none⟩ (.int .i64 1)).setCell ⟨u, 0, none⟩ (.bool true)) w6.heap.size true 1 := ho7.setOther (a := ⟨u, 0, none⟩) hne _
    have hv8 : Big ((((w6.drewN nq).alloc (.cells ((Tryz.zeroCells136.setIfInBounds 0 (.bool true)).setIfInBounds 1 (.int .i64 1)) 136)).setCell ⟨w6.heap.size, 2, none⟩ (.int .i64 1)).setCell ⟨u, 0, none⟩ (.bool true)) v (decide (x < 0)) R := (hv7.setOther (a := ⟨w6.heap.size, 2, none⟩) (by show v ≠ w6.heap.size; omega) _).setOther (a := ⟨u, 0, none⟩) (fun e => huv e.symm) _
    have hq8 : Big ((((w6.drewN nq).alloc (.cells ((Tryz.zeroCells136.setIfInBounds 0 (.bool true)).setIfInBounds 1 (.int .i64 1)) 136)).setCell ⟨w6.heap.size, 2, none⟩ (.int .i64 1)).setCell ⟨u, 0, none⟩ (.bool true)) q (decide (y < 0)) y.natAbs := (hq7.setOther (a := ⟨w6.heap.size, 2, none⟩) (by show q ≠ w6.heap.size; omega) _).setOther (a := ⟨u, 0, none⟩) (by show q ≠ u; omega) _
    generalize ((((w6.drewN nq).alloc (.cells ((Tryz.zeroCells136.setIfInBounds 0 (.bool true)).setIfInBounds 1 (.int .i64 1)) 136)).setCell ⟨w6.heap.size, 2, none⟩ (.int .i64 1)).setCell ⟨u, 0, none⟩ (.bool true)) = w8 at *
    refine (wide_plus u w6.heap.size (fun e => hne e.symm) true true Q 1 114 _ (by omega) hu8 ho8 (by omega) (by omega) (by omega)).mono ?_
    rintro e w9 ⟨rfl, hg9, hu9⟩
    have hv9 := hv8.grown hg9 (fun e => huv e.symm)
    have hq9 := hq8.grown hg9 (by omega)
    have hB9 := only_new hb8 hg9 hb8.size (by omega)
    go_wp2_with fail
    refine (wide_plus v q (by omega) _ _ R y.natAbs 114 _ (by omega) hv9 hq9 (by omega) (by omega) (by omega)).mono ?_
    rintro e w10 ⟨rfl, hg10, hv10⟩
    have hu10 := hu9.keep (hg10.block u hu9.lt (fun e => huv (by injection e)))
    have hB10 := only_new hB9 hg10 hB9.size (by omega)
    rw [sval_abs] at hv10
    obtain ⟨l1, u1, hu1, he1⟩ := hu10
    obtain ⟨l2, u2, hu2, he2⟩ := hv10
    have He1 := Lib.hid he1; have He2 := Lib.hid he2; clear he1 he2
    go_wp2_with fail
    refine (wide_text u l1 u1 _ (hE.below hB10) hu1).mono ?_
    rintro e w11 ⟨c, hc, rfl, hb11⟩
    have hB11 := hB10.trans (hb11.mono hB10.size)
    go_wp2_with fail
    refine (wide_text v l2 u2 _ (hE.below hB11) (hu2.belowAll hb11)).mono ?_
    rintro e w12 ⟨d, hd, rfl, hb12⟩
    go_wp2_with fail
    go_ret3
    exact part_end hB11 hc hd (E1.out.trans (by rw [He1.out]; rfl)) (E2.out.trans He2.out.symm) (Below.refl _ _) hb12

theorem whole_parted (a b : ByteArray) (x y : Int) (w : World) (hE : Env w) (ha : RI a x) (hb : RI b y) (hy : y ≠ 0) :
    Calls Tryz.prog 125 #[.string a, .string b] w (Parted2 x y w) := by
  by_cases hs : a.size ≤ 9 ∧ b.size ≤ 9
  · exact parted_small a b x y w hE ha hb hy hs
  · exact parted_long a b x y w hE ha hb hy hs

theorem fdiv_wid {x y : Int} (hy : y ≠ 0) : (x.fdiv y).natAbs ≤ x.natAbs := by
  obtain ⟨h1, h2, h3, h4, h5, h6⟩ := natAbs_parts x y hy
  have hm := Int.mul_ediv_add_emod (x.natAbs : Int) y.natAbs
  by_cases hc : (x.natAbs : Int) % y.natAbs = 0 ∨ (decide (x < 0) == decide (y < 0)) = true
  · rw [(h5 hc).1]
    have := sval_natAbs (!(decide (x < 0) == decide (y < 0))) h1
    omega
  · have hc1 : (x.natAbs : Int) % y.natAbs ≠ 0 := fun e => hc (.inl e)
    rw [(h6 hc1 (by rw [Bool.eq_false_iff]; exact fun e => hc (.inr e))).1]
    have h0 : (1 : Int) ≤ y.natAbs := by omega
    have : 1 * ((x.natAbs : Int) / y.natAbs) ≤ (y.natAbs : Int) * ((x.natAbs : Int) / y.natAbs) := Int.mul_le_mul_of_nonneg_right h0 h1
    omega

theorem wid_mono {x y : Int} (h : x.natAbs ≤ y.natAbs) : wid x ≤ wid y := nDigits_mono h

set_option maxRecDepth 100000 in
theorem whole_Quo (a b : ByteArray) (x y : Int) (w : World) (hE : Env w) (ha : RI a x) (hb : RI b y) (hy : y ≠ 0) :
    Calls Tryz.prog 95 #[.string a, .string b] w fun e w' => ∃ c, RI c (x.fdiv y) ∧ e = .returned (.tuple #[.string c, .int .i64 0]) ∧ Below w.heap.size w w' := by
  have hw : wid (x.fdiv y) ≤ 1024 := Nat.le_trans (wid_mono (fdiv_wid hy)) ha.le
  go_enter Tryz.func95, Tryz.ntmps95
  go_wp2_with fail
  refine (whole_parted a b x y _ hE ha hb hy).mono ?_
  rintro e w1 ⟨c, d, hc, hd, rfl, hb1⟩
  have hr : RI c (x.fdiv y) := ⟨hc, hw⟩
  have g := hr.chk
  go_wp2_with fail
  refine (whole_Check c _ hr.size_le').mono ?_
  rintro e w2 ⟨rfl, hb2⟩
  go_wp2_with fail
  go_ret2
  exact ⟨c, hr, rfl, hb1.trans (hb2.mono hb1.size)⟩

end Go.Proofs.YtgkiaonakiflbaaGreatDoor

/- The contract of Gcd for right integers. -/
namespace Go.Proofs.YtgkiaonakiflbaaGreatDoor
open Go.RowKit

def cellInt (w : World) (p i : Nat) : Int := match w.cell? ⟨p, 2 + i, none⟩ with | some (.int _ z) => z | _ => 0
def bigVal (w : World) (v : Value) : Nat := match v with | .pointer (some a) => (wsum (cellInt w a.block) 232).toNat | _ => 0
theorem Big.val {w : World} {p : Nat} {l : Bool} {v : Int} (h : Big w p l v) : bigVal w (.pointer (some ⟨p, 0, none⟩)) = v.toNat := by
  obtain ⟨n, f, hw, hn, rfl⟩ := h
  show (wsum (cellInt w p) 232).toNat = _
  rw [← hn.sum, wsum_congr (g := f) (fun i hi => ?_)]
  unfold cellInt; rw [hw.cw i hi]
/-- The first word of a short number is the number. -/
theorem Big.word {w : World} {p n : Nat} {l : Bool} {v : Int} (h : Big w p l v) (hv : w.cell? ⟨p, 1, none⟩ = some (.int .i64 n)) (hn : n ≤ 1) : w.cell? ⟨p, 2, none⟩ = some (.int .i64 v) := by
  obtain ⟨k, f, hw, hk, rfl⟩ := h
  have h1 := hw.c1
  rw [h1, Option.some.injEq, Value.int.injEq] at hv
  have hc : w.cell? ⟨p, 2, none⟩ = some (.int .i64 (f 0)) := hw.cw 0 (by omega)
  rw [hc]
  have : wsum f k = f 0 := by
    rcases Nat.eq_zero_or_pos k with e | e
    · subst e
      rw [wsum_zero, hk.zero 0 (by omega) (by omega)]
    · obtain rfl : k = 1 := by omega
      rw [wsum_succ, wsum_zero, PB_zero]; omega
  rw [this]

theorem gcd_step {X Y G : Nat} (h : Nat.gcd X Y = G) : Nat.gcd Y (X % Y) = G := by
  rw [← h, Nat.gcd_comm X Y, Nat.gcd_rec Y X, Nat.gcd_comm]
theorem gcd_wid {x y : Int} (hx : wid x ≤ 1024) (hy : wid y ≤ 1024) : wid (Int.gcd x y : Int) ≤ 1024 := by
  by_cases h : x = 0
  · subst h
    rw [Int.gcd_zero_left]
    exact Nat.le_trans (wid_mono (by omega)) hy
  · refine Nat.le_trans (wid_mono ?_) hx
    have := Nat.le_of_dvd (by omega) (Nat.gcd_dvd_left x.natAbs y.natAbs)
    exact this

set_option maxRecDepth 100000 in
set_option maxHeartbeats 1000000 in
theorem gcd_walk (a b : ByteArray) (x y : Int) (G : Nat) (w : World) (hE : Env w) (ha : RI a x) (hb : RI b y) (hgi : Nat.gcd x.natAbs y.natAbs = G) (hG : wid (G : Int) ≤ 1024) :
    Calls Tryz.prog 97 #[.string a, .string b] w fun e w' => ∃ c, RI c (G : Int) ∧ e = .returned (.tuple #[.string c, .int .i64 0]) ∧ Below w.heap.size w w' := by
  have g := ha.chk2 hb
  have Hgi := Lib.hid hgi; clear hgi
  have hX := itoa_wid_PB ha.le
  have hY := itoa_wid_PB hb.le
  go_enter Tryz.func97, Tryz.ntmps97
  go_wp2_with (first
    | (go_at_call 102; refine (whole_all2 a b w _ ha.size_le' hb.size_le').mono ?_; rintro e w1 ⟨rfl, hb1⟩))
  refine (whole_read a x _ ha.is ha.le).mono ?_
  rintro e w3 ⟨p, rfl, hp, hb3, hbp⟩
  go_wp2_with fail
  refine (whole_read b y _ hb.is hb.le).mono ?_
  rintro e w4 ⟨q, rfl, hq, hb4, hbq⟩
  have hB4 : Below w.heap.size w w4 := (hb1.trans (hb3.mono hb1.size)).trans (hb4.mono (Nat.le_trans hb1.size hb3.size))
  have hbp4 := hbp.belowAll hb4
  go_wp2_with fail
  obtain ⟨p0, hp0⟩ : ∃ p0, p0 = Value.pointer (some ⟨p, 0, none⟩) := ⟨_, rfl⟩
  have hwp : w.heap.size ≤ p := Nat.le_trans hb1.size hp
  have hwq : w.heap.size ≤ q := Nat.le_trans (Nat.le_trans hb1.size hb3.size) hq
  go_loopw [7, 8] (fun v u wr => ∃ (r s : Nat) (X Y : Nat) (l m : Bool), v = .pointer (some ⟨r, 0, none⟩) ∧ u = .pointer (some ⟨s, 0, none⟩) ∧ Big wr r l X ∧ Big wr s m Y ∧ Hid (Nat.gcd X Y = G) ∧ Below w.heap.size w wr ∧ (X : Int) < PB 114 ∧ (Y : Int) < PB 114 ∧ w.heap.size ≤ r ∧ w.heap.size ≤ s) (fun _ u wr => bigVal wr u)
  case atStart => exact ⟨p, q, _, _, _, _, rfl, rfl, hbp4, hbq, Hgi, hB4, hX, hY, hwp, hwq⟩
  case round =>
    obtain ⟨r, s, X, Y, l, m, rfl, rfl, hr, hs, hg, hbr, hX', hY', hr0, hs0⟩ := hrel
    obtain ⟨nx, cx, hx0, hx1, hx2⟩ := hr.c1
    obtain ⟨ny, cy, hy0, hy1, hy2⟩ := hs.c1
    have hval := hs.val
    by_cases hz : ny = 0
    · have t1 : decide ((0 : Int) < (ny : Int)) = false := by simp [hz]
      have t2 : decide (0 < ny) = false := by simp [hz]
      have hY0 := hy0.1 hz
      have HY0 := Lib.hid hY0; clear hz hY0
      have fr := hr.frozen 0
      have cr := hr.c0
      go_wp2_with fail
      have hr2 := hr.set0 false
      have hB2 := hbr.setCell (p := ⟨r, 0, none⟩) hr0 (.bool false)
      generalize wr.setCell ⟨r, 0, none⟩ (.bool false) = w6 at *
      refine (wide_text r false X _ (hE.below hB2) hr2).mono ?_
      rintro e w7 ⟨c, hc, rfl, hb7⟩
      go_wp2_with fail
      go_ret2
      refine ⟨c, ⟨?_, hG⟩, rfl, hB2.trans (hb7.mono hB2.size)⟩
      rw [sval_false] at hc
      refine hc.cast ?_
      have h1 := hg.out
      have h2 : Y = 0 := by have := HY0.out; omega
      rw [h2, Nat.gcd_zero_right] at h1
      rw [h1]
    · have t1 : decide ((0 : Int) < (ny : Int)) = true := by simp; omega
      have t2 : decide (0 < ny) = true := by simp; omega
      have hYp : 0 < Y := by
        rcases Nat.eq_zero_or_pos Y with e | e
        · exact absurd (hy0.2 (by omega)) hz
        · exact e
      clear hz
      by_cases hs1 : nx ≤ 1 ∧ ny ≤ 1
      · obtain ⟨hs1, hs2⟩ := hs1
        have X9 := hx1 hs1
        have Y9 := hy1 hs2
        have cw1 := hr.word cx hs1
        have cw2 := hs.word cy hs2
        have t3 : decide ((nx : Int) ≤ 1) = true := by simp; omega
        have t4 : decide ((ny : Int) ≤ 1) = true := by simp; omega
        go_wp2_with fail
        go_quiet (fail)
        go_wp2_with fail
        go_loopw [9, 10] (fun i j wi => ∃ (m n : Nat), i = .int .i64 (m : Int) ∧ j = .int .i64 (n : Int) ∧ m < 1000000000 ∧ n < 1000000000 ∧ Hid (Nat.gcd m n = G) ∧ Below w.heap.size w wi) (fun _ j _ => (intOf j).toNat)
        case atStart => exact ⟨X, Y, rfl, rfl, by omega, by omega, hg, below_drewN hbr _⟩
        case round =>
          obtain ⟨m, n, rfl, rfl, hm, hn, hg', hbi⟩ := hrel
          by_cases hn0 : n = 0
          · have t5 : ((n : Int) != 0) = false := by simp [hn0]
            have HN := Lib.hid hn0; clear hn0
            go_wp2_with fail
            refine (whole_Of (m : Int) (by omega) (by omega) _ (hE.below hbi)).mono ?_
            rintro e w7 ⟨c, hc, rfl, hb7⟩
            go_wp2_with fail
            go_ret2
            refine ⟨c, ⟨hc.cast ?_, hG⟩, rfl, hbi.trans (hb7.mono hbi.size)⟩
            have h1 := hg'.out
            rw [HN.out, Nat.gcd_zero_right] at h1
            rw [h1]
          · have t5 : ((n : Int) != 0) = true := by simp [hn0]
            have t6 : ((n : Int) == 0) = false := by simp [hn0]
            have hlt : m % n < n := Nat.mod_lt _ (by omega)
            have htm : (m : Int).tmod n = ((m % n : Nat) : Int) := rfl
            go_wp2_with fail
            go_quiet (fail)
            go_wp2_with fail
            go_roundw
            case rel => exact ⟨n, m % n, rfl, by go_num, hn, by omega, gcd_step hg'.out, below_drewN hbi _⟩
            case measure => simp [intOf]; omega
      · go_wp2_with fail
        all_goals
          refine (wide_divided r s l m X Y 114 _ (by omega) hr hs (by omega) hY').mono ?_
          rintro e w7 ⟨u, v, rfl, huv, hu, hv, hb7, hbu, hbv⟩
          go_wp2_with fail
          go_roundw
          case rel => exact ⟨s, v, Y, X % Y, m, false, rfl, rfl, hs.belowAll hb7, hbv, gcd_step hg.out, hbr.trans (hb7.mono hbr.size), hY', by have := Nat.mod_lt X hYp; omega, hs0, Nat.le_trans hbr.size hv⟩
          case measure => rw [hval, hbv.val]; have := Nat.mod_lt X hYp; omega

theorem whole_Gcd (a b : ByteArray) (x y : Int) (w : World) (hE : Env w) (ha : RI a x) (hb : RI b y) :
    Calls Tryz.prog 97 #[.string a, .string b] w fun e w' => ∃ c, RI c (Int.gcd x y : Int) ∧ e = .returned (.tuple #[.string c, .int .i64 0]) ∧ Below w.heap.size w w' :=
  gcd_walk a b x y (Int.gcd x y) w hE ha hb rfl (gcd_wid ha.le hb.le)

end Go.Proofs.YtgkiaonakiflbaaGreatDoor
