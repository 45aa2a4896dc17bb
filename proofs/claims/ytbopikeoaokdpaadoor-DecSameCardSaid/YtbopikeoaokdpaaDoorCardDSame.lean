/- The statement DecSame: its row and its card. -/
import Derived.Test.YtbopikeoaokdpaaDoorFrameDec
import Derived.Test.YtbopikeoaokdpaaDoorDLawS
import Derived.Carry
import Derived.Lib.SmallJoins
namespace Go.Proofs.YtbopikeoaokdpaaDoor
open Go.ChangeShapes Go.WideShapes Go.ChangeAt Go.WideElems Go.RowKit Go.ChangeMaps Go.Joins

set_option maxRecDepth 100000 in
theorem same_lifted (os : Os) (started : os.Started) (H : Type) (enc : TypeId × Value → H) :
    ReturnsInHanded {} Tryd.checked os 5 .any (fun w args => (Rows.decSameSpec.pre enc Tryd.prog Tryd.f5 [] false w args ∧ laidMetH Tryd.prog laidL w) ∧ sizedMet enc Tryd.prog Tryd.f5 (OpenSpec.ofChange Rows.decSameSpec) false w args)
      (Rows.decSameSpec.post enc Tryd.prog Tryd.f5 false true false false) := by
  refine returnsInHanded_of_change_and (C := Tryd.checked) (X := fun w _ => laidMetH Tryd.prog laidL w) (fun _ _ _ hh h => h.of_heap hh) own started (by kernel_rfl) Tryd.func5
    (ChangeSpec.witness_shaped (enc := enc) (C := Tryd.checked) (os := os) (X := fun w _ => laidMetH Tryd.prog laidL w) false (World.laidAll Tryd.prog os laidL) #[.agg #[.bool false, .string ⟨#[]⟩, .int .i64 0], .int .i64 0, .int .i64 0] 8 (wit_os os) (wit_shaped os) (by kernel_rfl) (by kernel_rfl) (by kernel_rfl) (wit_met os _)) ?_
  intro W base args ds gs before hval0 hW _ hz1 hL _
  have hsz : (DataW.weightsEach Tryd.prog (Tryd.f5.params.toList ++ Rows.decSameSpec.plain.varTypes Tryd.prog) (ds ++ gs)).all (· ≤ reachBytes) = true := hz1
  have hval : ∀ (j : Nat) t v, Tryd.f5.params[j]? = some t → args[j]? = some v → Value.okWide Tryd.prog W .any base t v := hval0
  have hW' := hW
  obtain ⟨p, q, hA0, hV, rfl, _, _⟩ := hW
  have hA : DataW.TrodAll enc Tryd.prog W 0 (fun _ => true) true Tryd.f5.params.toList args.toList ds p := hA0
  rw [Tryd.params5] at hA hval hsz
  obtain ⟨v0, v1, v2, d0, d1, d2, p0, p1, p2, rfl, rfl, rfl, h0, h1, h2⟩ := trodAll_three hA
  obtain ⟨rfl, rfl⟩ := trodVars_none hV
  obtain ⟨c00, c01, c02, y00, y01, y02, m0, rfl, rfl, rfl, k00, k01, k02⟩ := open_agg3 Tryd.underlying24 (by kernel_rfl) (by kernel_rfl) (hval 0 24 v0 rfl rfl) h0
  obtain ⟨b0, eb0, rfl⟩ := DataW.trod_bool Tryd.underlying4 k00
  obtain ⟨s0, es0, rfl, hs0⟩ := DataW.trod_string Tryd.underlying9 k01
  obtain ⟨x0, ex0, rfl, wx0⟩ := DataW.trod_int Tryd.underlying3 k02
  obtain rfl := (List.cons.inj eb0).1
  obtain rfl := (List.cons.inj es0).1
  obtain rfl := (List.cons.inj ex0).1
  obtain ⟨x1, rfl, rfl, rfl, wx1⟩ := open_int Tryd.underlying3 (hval 1 3 v1 rfl rfl) h1
  obtain ⟨x2, rfl, rfl, rfl, wx2⟩ := open_int Tryd.underlying3 (hval 2 3 v2 rfl rfl) h2
  simp only [List.append_nil] at hW'
  have hr0 : s0.size ≤ 140737488355328 := by
    have h2 : s0.data.toList.length ≤ reachBytes := of_decide_eq_true (List.all_eq_true.1 hsz _ (by simp [DataW.weights, DataW.weightsEach, Tryd.underlying24]))
    have h3 : reachBytes ≤ 140737488355328 := by decide
    rw [len_str] at h2
    omega
  refine (same_law b0 s0 x0 hr0 x1 x2 W (tabs_of_laid hL)).mono fun e W' ⟨he, hb⟩ => ?_
  subst he
  exact ⟨_, rfl, _, _, _, [], [], [], hW', trodAll_mk1 (shut_bool Tryd.underlying4 _), trodAll_mk3 (shut_agg3 Tryd.underlying24 (by kernel_rfl) (by kernel_rfl) (field_of_Trod (shut_bool Tryd.underlying4 b0) rfl) (field_of_Trod (shut_string Tryd.underlying9 hs0) rfl) (field_of_Trod (shut_int Tryd.underlying3 wx0) rfl)) (shut_int Tryd.underlying3 wx1) (shut_int Tryd.underlying3 wx2), rfl, hb.frame _, fun h => by cases h⟩

theorem same_holds : Rows.DecSameSaid :=
  OpenClaim.holds_of_wide 5 Tryd.f5 rfl rfl rfl rfl rfl rfl rfl ⟨rfl, rfl, rfl, rfl, rfl⟩ rfl rfl rfl rfl rfl (by kernel_rfl) Tryd.func5 (by kernel_rfl)
    (of_decide_eq_true (by kernel_rfl)) (by unfold Func.isWrapper; first | (rw [if_pos (by decide +kernel)]; kernel_rfl) | (rw [if_neg (by decide +kernel)]; exact ⟨rfl, rfl⟩))
    (fun os started H enc _ => same_lifted os started H enc)

theorem same_card : Rows.DecSameCardSaid :=
  Claim7.holds_tied_plain_at .later [] [.data, .data, .data, .data, .sentinel, .sentinel, .pinned] true _ true
    same_holds (fun _ h => by cases h) (by kernel_rfl) (fun _ h => by cases h) decSame_row_tie rfl ⟨rfl, rfl⟩ (by kernel_rfl) rfl
    (fun f fn hf hfn => by
      obtain rfl : f = 5 := Option.some.inj ((show Tryd.prog.funcNamed "targum/targumlaw04.DecSame" = some 5 by kernel_rfl).symm.trans hf) |>.symm
      obtain rfl : fn = Tryd.f5 := (Option.some.inj (Tryd.func5.symm.trans hfn)).symm
      exact ⟨by kernel_rfl, fun j t ht => by
        rw [Tryd.params5] at ht
        have hm : t ∈ [24, 3, 3] := by simpa using Array.mem_of_getElem? ht
        have hall : ([24, 3, 3].all fun u => !Tryd.prog.wantsStandIn u) = true := by kernel_rfl
        exact (show Tryd.prog.wantsStandIn t = false by simpa using List.all_eq_true.1 hall t hm)⟩)
    (by kernel_rfl)
#print axioms same_card
end Go.Proofs.YtbopikeoaokdpaaDoor
