/- 'metrolablaw02.RatioSums' answers true for every list of texts, and leaves it as it was: the row's statement and its card, the listed variables holding what the program's text lays in them. -/
import Derived.Test.YtgkiaonakiflbaaGreatDoorLf
import Derived.Test.YtgkiaonakiflbaaGreatDoorTc
import Derived.Test.YtgkiaonakiflbaaGreatDoorCards
import Derived.Test.YtgkiaonakiflbaaGreatDoorTie
import Derived.SizedLaws
import Derived.SliceStrings
import Derived.Carry
namespace Go.Proofs.YtgkiaonakiflbaaGreatDoor
open Go.RowKit Go.WideShapes Go.ChangeShapes Go.ChangeAt Go.ChangeMaps

theorem laid_out : laidOutB Tryz.prog = true := by kernel_rfl
theorem bytes_rat : Tryz.prog.bytesOf 22 = 16 := by kernel_rfl
theorem weightsAll_mem {H : Type} {P : Program} {e : TypeId} : ∀ {l : List (DataW H)} {d : DataW H}, d ∈ l → ∀ n ∈ d.weights P e, n ∈ DataW.weightsAll P e l
  | a :: l, d, hd, n, hn => by
    simp only [DataW.weightsAll, List.mem_append]
    rcases List.mem_cons.1 hd with rfl | h
    · exact .inl hn
    · exact .inr (weightsAll_mem h n hn)
theorem weights_strs {H : Type} (l r : List ByteArray) (s : ByteArray) (hs : s ∈ l) :
    s.size ∈ DataW.weightsEach Tryz.prog ([25] ++ (OpenSpec.ofChange Rows.ratioSumsSpec).bare.plain.varTypes Tryz.prog) ([(.slice (Go.ChangeShapes.strs l) (Go.ChangeShapes.strs r) : DataW H)]) := by
  have h1 : (.lit (.string s.data.toList) : DataW H) ∈ Go.ChangeShapes.strs l := by
    unfold Go.ChangeShapes.strs
    exact List.mem_map.2 ⟨s, hs, rfl⟩
  have h2 := weightsAll_mem (P := Tryz.prog) (e := 22) h1 s.size (by show s.size ∈ [s.data.toList.length]; rw [Lib.size_eq]; exact List.mem_singleton.2 rfl)
  simp only [List.cons_append, DataW.weightsEach, DataW.weights, Tryz.underlying25, List.mem_append, List.mem_cons]
  first
    | exact .inl (.inr (.inl h2))
    | exact .inr (.inl (.inl h2))
    | exact .inl (.inr h2)
    | exact .inr (.inl h2)

namespace sumlaw
theorem reads (os : Os) {H : Type} (enc : TypeId × Value → H) : ∃ places, DataW.whole enc Tryz.prog ((startWorld os).forCall (fun _ _ => 0) ⟨#[], #[.slice none 0 0], []⟩).memory Tryz.f6.params.toList Rows.ratioSumsSpec.vars false #[Value.slice none 0 0].toList 8 = some ([.nil], [], places) :=
  ⟨[], by kernel_rfl⟩

set_option maxRecDepth 100000 in
theorem lifted (os : Os) (started : os.Started) (H : Type) (enc : TypeId × Value → H) (F : Stop.Interp) :
    ReturnsInHanded {} Tryz.checked os 6 .any ((OpenSpec.ofChange Rows.ratioSumsSpec).preRow enc Tryz.prog Tryz.f6 Rows.ratioSumsRow.domain false Rows.ratioSumsRow.laid) (((OpenSpec.ofChange Rows.ratioSumsSpec).at F).post enc Tryz.prog Tryz.f6 false true false false) := by
  obtain ⟨places, hx⟩ := reads os enc
  refine returnsInHanded_of_row (C := Tryz.checked) (s := OpenSpec.ofChange Rows.ratioSumsSpec) own started (by kernel_rfl) Tryz.func6
    (witness_zip (enc := enc) (C := Tryz.checked) (startWorld os) #[.slice none 0 0] (World.laidAll_os _ _ _) (start_vars os _) (start_rest os _) (by kernel_rfl)
      (OpenSpec.preRow_of_cond 8 hx (by kernel_rfl) (fun k hk => by cases hk) (by kernel_rfl) (start_met os _))) ?_
  intro W base args ds gs before hval hW _ _ hsz0 hL hsh _
  have hE := env_of_row hL hsh
  have hW' := hW
  obtain ⟨p, q, hA0, hV, rfl, hfz, hnd⟩ := hW
  have hA : DataW.TrodAll enc Tryz.prog W 0 (fun _ => true) true Tryz.f6.params.toList args.toList ds p := hA0
  have hval' : ∀ (j : Nat) t v, Tryz.f6.params[j]? = some t → args[j]? = some v → Value.okWide Tryz.prog W .any base t v := hval
  have hsz : (DataW.weightsEach Tryz.prog (Tryz.f6.params.toList ++ (OpenSpec.ofChange Rows.ratioSumsSpec).bare.plain.varTypes Tryz.prog) (ds ++ gs)).all (· ≤ reachBytes) = true := hsz0
  rw [Tryz.params6] at hA hval' hsz
  obtain ⟨v0, vs0, d0, ds0, p0, q0, hargs, rfl, rfl, h0, r0⟩ := trodAll_cons hA
  obtain ⟨rfl, rfl, rfl⟩ := trodAll_nil r0
  obtain rfl : args = #[v0] := by cases args; simp_all
  obtain ⟨rfl, rfl⟩ := trodVars_none hV
  have hval0 := hval' 0 25 v0 rfl rfl
  have h0k := h0
  obtain ⟨fuel0, hf0⟩ := h0
  obtain ⟨x0, ln, cp, rfl⟩ := okWide_slice Tryz.underlying25 hval0
  have hlt : ∀ x ∈ p0, x.block < W.heap.size := fun x hx => by simpa using hW'.lt x (by simp [hx])
  simp only [List.append_nil] at hW' hsz
  have walk : Calls Tryz.prog 6 #[.slice x0 ln cp] W fun r w' => r = .returned (.bool true) ∧ Below W.heap.size W w' := by
    rcases open_strings Tryz.underlying25 Tryz.underlying22 cells_rat hf0 with ⟨hcs, _⟩ | ⟨ad, len', cap', ss, hcs, _, hl, hm, hz, hx, hcell, hszs⟩
    · simp [Value.cells] at hcs
      obtain ⟨rfl, rfl, rfl⟩ := hcs
      exact law_sums_none none 0 W hE
    · simp [Value.cells] at hcs
      obtain ⟨rfl, rfl, rfl⟩ := hcs
      simp only [if_true] at hz
      have hd0 : d0 = .slice (Go.ChangeShapes.strs (ss.take ln)) (Go.ChangeShapes.strs (ss.drop ln)) := congrArg Prod.fst hx
      have hll : (ss.take ln).length = ln := by rw [List.length_take]; omega
      have hmax : ln ≤ 140737488351232 := by
        have h1 := sized_slice hsz (j := 0) (t := 25) (e := 22) rfl (by rw [hd0]; rfl) Tryz.underlying25
        rw [bytes_rat] at h1
        simp only [Go.ChangeShapes.strs, List.length_map, reachBytes, hll] at h1
        omega
      have hfs : ∀ s ∈ ss.take ln, s.size ≤ 140737488351232 := by
        intro s hs
        have h2 := List.all_eq_true.1 hsz
        have h3 := h2 s.size (by
          rw [hd0]
          exact weights_strs (ss.take ln) (ss.drop ln) s hs)
        exact of_decide_eq_true h3
      obtain ⟨b, off, spot⟩ := ad
      by_cases hn0 : ln = 0
      · subst hn0
        exact law_sums_none _ cp W hE
      · have hspot : spot = none := by simpa [Addr.add] using World.cell?_spot (hcell 0 (by omega))
        subst hspot
        refine law_sums b off ln cp (ss.take ln) W hE hll hmax hfs ⟨block_lt_of_cell (hcell 0 (by omega)), fun i hi => ?_⟩
        have hi' : i < ln := by
          have h9 : i < (strs (ss.take ln)).length := hi
          simp [strs] at h9
          omega
        have hc := hcell i (by omega)
        rw [show (strs (ss.take ln))[i] = .string (ss.getD i ByteArray.empty) by
          simp [strs, List.getD, List.getElem?_eq_getElem (show i < ss.length by omega)]]
        have had : (⟨b, off, none⟩ : Addr).add i = ⟨b, off + i, none⟩ := by
          by_cases h0 : i = 0
          · subst h0; simp [Addr.add]
          · simp [Addr.add, h0]
        rw [had] at hc
        exact hc
  clear hA0 hval hsz hsz0
  refine walk.mono fun e W' ⟨he, hb⟩ => ?_
  subst he
  exact ⟨_, rfl, _, _, _, [], _, [], hW', trodAll_mk1 (shut_bool Tryz.underlying4 _), trodAll_mk1 (Below.trod laid_out (by kernel_rfl) (of_decide_eq_true (by kernel_rfl)) h0k hb hlt), rfl, hb.frame _, fun h => by cases h⟩

theorem said : Rows.RatioSumsSaid :=
  OpenClaim.holds_of_cond 6 Tryz.f6 rfl rfl rfl rfl rfl rfl rfl ⟨rfl, rfl, rfl, rfl, rfl⟩ rfl rfl rfl rfl rfl (by kernel_rfl) Tryz.func6 (by kernel_rfl)
    (of_decide_eq_true (by kernel_rfl)) (by unfold Func.isWrapper; first | (rw [if_pos (by decide +kernel)]; kernel_rfl) | (rw [if_neg (by decide +kernel)]; exact ⟨rfl, rfl⟩))
    (fun os started H enc _ F => by rw [OpenClaim.pre_eq_preRow]; exact lifted os started H enc F)

theorem plain (f : FuncId) (fn : Func) (hf : Tryz.pinned.checked.prog.funcNamed "metrolab/metrolablaw02.RatioSums" = some f) (hfn : Tryz.pinned.checked.prog.funcs[f]? = some fn) :
    true = Tryz.pinned.checked.prog.looks [] ∧ ∀ (j : Nat) t, fn.params[j]? = some t → Tryz.pinned.checked.prog.wantsStandIn t = false := by
  obtain rfl : f = 6 := Option.some.inj ((show Tryz.prog.funcNamed "metrolab/metrolablaw02.RatioSums" = some 6 by kernel_rfl).symm.trans hf) |>.symm
  obtain rfl : fn = Tryz.f6 := (Option.some.inj (Tryz.func6.symm.trans hfn)).symm
  refine ⟨by kernel_rfl, fun j t ht => ?_⟩
  rw [Tryz.params6] at ht
  obtain rfl : t = 25 := by simpa using Array.mem_of_getElem? ht
  exact (show Tryz.prog.wantsStandIn 25 = false by kernel_rfl)

theorem card : Rows.RatioSumsCardSaid :=
  Claim7.holds_tied_plain_at .later [] _ _ _ _ said (fun _ h => by cases h) (by kernel_rfl) (fun _ h => by cases h) ratioSums_row_tie rfl ⟨rfl, rfl⟩ (by kernel_rfl) rfl plain (by kernel_rfl)
end sumlaw

theorem ratioSums_holds : Rows.RatioSumsCardSaid := sumlaw.card

end Go.Proofs.YtgkiaonakiflbaaGreatDoor
