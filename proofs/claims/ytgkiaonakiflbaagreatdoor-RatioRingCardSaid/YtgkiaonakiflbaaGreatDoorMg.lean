/- 'metrolablaw02.RatioRing' answers true for every three texts, and leaves them as they were: the row's statement and its card, the listed variables holding what the program's text lays in them. -/
import Derived.Test.YtgkiaonakiflbaaGreatDoorLl
import Derived.Test.YtgkiaonakiflbaaGreatDoorLb
import Derived.Test.YtgkiaonakiflbaaGreatDoorCards
import Derived.Test.YtgkiaonakiflbaaGreatDoorTie
import Derived.SizedLaws
namespace Go.Proofs.YtgkiaonakiflbaaGreatDoor
open Go.RowKit Go.WideShapes Go.ChangeShapes Go.ChangeAt Go.ChangeMaps

namespace ring
theorem reads (os : Os) {H : Type} (enc : TypeId × Value → H) : ∃ places, DataW.whole enc Tryz.prog ((startWorld os).forCall (fun _ _ => 0) ⟨#[], #[.string ⟨#[]⟩, .string ⟨#[]⟩, .string ⟨#[]⟩], []⟩).memory Tryz.f8.params.toList Rows.ratioRingSpec.vars false #[Value.string ⟨#[]⟩, Value.string ⟨#[]⟩, Value.string ⟨#[]⟩].toList 8 = some ([.lit (.string []), .lit (.string []), .lit (.string [])], [], places) :=
  ⟨[], by kernel_rfl⟩

set_option maxRecDepth 100000 in
theorem lifted (os : Os) (started : os.Started) (H : Type) (enc : TypeId × Value → H) (F : Stop.Interp) :
    ReturnsInHanded {} Tryz.checked os 8 .any ((OpenSpec.ofChange Rows.ratioRingSpec).preRow enc Tryz.prog Tryz.f8 Rows.ratioRingRow.domain false Rows.ratioRingRow.laid) (((OpenSpec.ofChange Rows.ratioRingSpec).at F).post enc Tryz.prog Tryz.f8 false true false false) := by
  obtain ⟨places, hx⟩ := reads os enc
  refine returnsInHanded_of_row (C := Tryz.checked) (s := OpenSpec.ofChange Rows.ratioRingSpec) own started (by kernel_rfl) Tryz.func8
    (witness_zip (enc := enc) (C := Tryz.checked) (startWorld os) #[.string ⟨#[]⟩, .string ⟨#[]⟩, .string ⟨#[]⟩] (World.laidAll_os _ _ _) (start_vars os _) (start_rest os _) (by kernel_rfl)
      (OpenSpec.preRow_of_cond 8 hx (by kernel_rfl) (fun k hk => by cases hk) (by kernel_rfl) (start_met os _))) ?_
  intro W base args ds gs before hval hW _ _ hsz0 hL hsh _
  have hE := env_of_row hL hsh
  have hW' := hW
  obtain ⟨p, q, hA0, hV, rfl, hfz, hnd⟩ := hW
  have hA : DataW.TrodAll enc Tryz.prog W 0 (fun _ => true) true Tryz.f8.params.toList args.toList ds p := hA0
  have hval' : ∀ (j : Nat) t v, Tryz.f8.params[j]? = some t → args[j]? = some v → Value.okWide Tryz.prog W .any base t v := hval
  have hsz : (DataW.weightsEach Tryz.prog (Tryz.f8.params.toList ++ (OpenSpec.ofChange Rows.ratioRingSpec).bare.plain.varTypes Tryz.prog) (ds ++ gs)).all (· ≤ reachBytes) = true := hsz0
  rw [Tryz.params8] at hA hval' hsz
  obtain ⟨v0, vs0, d0, ds0, p0, q0, hargs, rfl, rfl, h0, r0⟩ := trodAll_cons hA
  obtain ⟨v1, vs1, d1, ds1, p1, q1, rfl, rfl, rfl, h1, r1⟩ := trodAll_cons r0
  obtain ⟨v2, vs2, d2, ds2, p2, q2, rfl, rfl, rfl, h2, r2⟩ := trodAll_cons r1
  obtain ⟨rfl, rfl, rfl⟩ := trodAll_nil r2
  obtain rfl : args = #[v0, v1, v2] := by cases args; simp_all
  obtain ⟨rfl, rfl⟩ := trodVars_none hV
  obtain ⟨a0, rfl, rfl, rfl, za0⟩ := open_string Tryz.underlying22 (hval' 0 22 v0 rfl rfl) h0
  have z0 : a0.size ≤ 140737488351232 := by
    have := sized_string hsz (j := 0) (t := 22) (bytes := a0.data.toList) rfl rfl
    simpa [reachBytes] using this
  obtain ⟨a1, rfl, rfl, rfl, za1⟩ := open_string Tryz.underlying22 (hval' 1 22 v1 rfl rfl) h1
  have z1 : a1.size ≤ 140737488351232 := by
    have := sized_string hsz (j := 1) (t := 22) (bytes := a1.data.toList) rfl rfl
    simpa [reachBytes] using this
  obtain ⟨a2, rfl, rfl, rfl, za2⟩ := open_string Tryz.underlying22 (hval' 2 22 v2 rfl rfl) h2
  have z2 : a2.size ≤ 140737488351232 := by
    have := sized_string hsz (j := 2) (t := 22) (bytes := a2.data.toList) rfl rfl
    simpa [reachBytes] using this
  clear hA0 hval hsz hsz0
  simp only [List.append_nil] at hW'
  refine (law_ring a0 a1 a2 W hE z0 z1 z2).mono fun e W' ⟨he, hb⟩ => ?_
  subst he
  exact ⟨_, rfl, _, _, _, [], [], [], hW', trodAll_mk1 (shut_bool Tryz.underlying4 _), trodAll_cons_mk (shut_string Tryz.underlying22 za0) (trodAll_cons_mk (shut_string Tryz.underlying22 za1) (trodAll_cons_mk (shut_string Tryz.underlying22 za2) trodAll_mk0)), rfl, hb.frame _, fun h => by cases h⟩

theorem said : Rows.RatioRingSaid :=
  OpenClaim.holds_of_cond 8 Tryz.f8 rfl rfl rfl rfl rfl rfl rfl ⟨rfl, rfl, rfl, rfl, rfl⟩ rfl rfl rfl rfl rfl (by kernel_rfl) Tryz.func8 (by kernel_rfl)
    (of_decide_eq_true (by kernel_rfl)) (by unfold Func.isWrapper; first | (rw [if_pos (by decide +kernel)]; kernel_rfl) | (rw [if_neg (by decide +kernel)]; exact ⟨rfl, rfl⟩))
    (fun os started H enc _ F => by rw [OpenClaim.pre_eq_preRow]; exact lifted os started H enc F)

theorem plain (f : FuncId) (fn : Func) (hf : Tryz.pinned.checked.prog.funcNamed "metrolab/metrolablaw02.RatioRing" = some f) (hfn : Tryz.pinned.checked.prog.funcs[f]? = some fn) :
    true = Tryz.pinned.checked.prog.looks [] ∧ ∀ (j : Nat) t, fn.params[j]? = some t → Tryz.pinned.checked.prog.wantsStandIn t = false := by
  obtain rfl : f = 8 := Option.some.inj ((show Tryz.prog.funcNamed "metrolab/metrolablaw02.RatioRing" = some 8 by kernel_rfl).symm.trans hf) |>.symm
  obtain rfl : fn = Tryz.f8 := (Option.some.inj (Tryz.func8.symm.trans hfn)).symm
  refine ⟨by kernel_rfl, fun j t ht => ?_⟩
  rw [Tryz.params8] at ht
  obtain rfl : t = 22 := by simpa using Array.mem_of_getElem? ht
  exact (show Tryz.prog.wantsStandIn 22 = false by kernel_rfl)

theorem card : Rows.RatioRingCardSaid :=
  Claim7.holds_tied_plain_at .later [] _ _ _ _ said (fun _ h => by cases h) (by kernel_rfl) (fun _ h => by cases h) ratioRing_row_tie rfl ⟨rfl, rfl⟩ (by kernel_rfl) rfl plain (by kernel_rfl)
end ring

theorem ratioRing_holds : Rows.RatioRingCardSaid := ring.card

end Go.Proofs.YtgkiaonakiflbaaGreatDoor
