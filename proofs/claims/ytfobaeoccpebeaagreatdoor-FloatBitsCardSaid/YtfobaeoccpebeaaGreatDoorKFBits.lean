/- The statement FloatBits: its row and its card. -/
import Derived.Test.YtfobaeoccpebeaaGreatDoorMI
import Derived.Test.YtfobaeoccpebeaaGreatDoorMM
import Derived.Carry
import Derived.Lib.SmallJoins
namespace Go.Proofs.YtfobaeoccpebeaaGreatDoor
open Go.ChangeShapes Go.WideShapes Go.ChangeAt Go.WideElems Go.RowKit Go.ChangeMaps Go.Joins

set_option maxRecDepth 100000 in
theorem fbits_lifted (os : Os) (started : os.Started) (H : Type) (enc : TypeId × Value → H) :
    ReturnsInHanded {} Tryz.checked os 4 .any (fun w args => (Rows.floatBitsSpec.pre enc Tryz.prog Tryz.f4 [] false w args ∧ laidMetH Tryz.prog laidL w) ∧ sizedMet enc Tryz.prog Tryz.f4 (OpenSpec.ofChange Rows.floatBitsSpec) false w args)
      (Rows.floatBitsSpec.post enc Tryz.prog Tryz.f4 false true false false) := by
  refine returnsInHanded_of_change_and (C := Tryz.checked) (X := fun w _ => laidMetH Tryz.prog laidL w) (fun _ _ _ hh h => h.of_heap hh) own started (by kernel_rfl) Tryz.func4
    (ChangeSpec.witness_shaped (enc := enc) (C := Tryz.checked) (os := os) (X := fun w _ => laidMetH Tryz.prog laidL w) false (World.laidAll Tryz.prog os laidL) #[.agg #[.bool false, .string ⟨#[]⟩, .int .i64 0]] 8 (wit_os os) (wit_shaped os) (by kernel_rfl) (by kernel_rfl) (by kernel_rfl) (wit_met os _)) ?_
  intro W base args ds gs before hval0 hW _ _ hL _
  have hval : ∀ (j : Nat) t v, Tryz.f4.params[j]? = some t → args[j]? = some v → Value.okWide Tryz.prog W .any base t v := hval0
  have hW' := hW
  obtain ⟨p, q, hA0, hV, rfl, _, _⟩ := hW
  have hA : DataW.TrodAll enc Tryz.prog W 0 (fun _ => true) true Tryz.f4.params.toList args.toList ds p := hA0
  rw [Tryz.params4] at hA hval
  obtain ⟨v0, d0, rfl, rfl, h0⟩ := trodAll_one hA
  obtain ⟨rfl, rfl⟩ := trodVars_none hV
  obtain ⟨c00, c01, c02, y00, y01, y02, m0, rfl, rfl, rfl, k00, k01, k02⟩ := open_agg3 Tryz.underlying25 (by kernel_rfl) (by kernel_rfl) (hval 0 25 v0 rfl rfl) h0
  obtain ⟨b0, eb0, rfl⟩ := DataW.trod_bool Tryz.underlying4 k00
  obtain ⟨s0, es0, rfl, hs0⟩ := DataW.trod_string Tryz.underlying9 k01
  obtain ⟨x0, ex0, rfl, wx0⟩ := DataW.trod_int Tryz.underlying3 k02
  obtain rfl := (List.cons.inj eb0).1
  obtain rfl := (List.cons.inj es0).1
  obtain rfl := (List.cons.inj ex0).1
  simp only [List.append_nil] at hW'
  refine (fbits_law b0 s0 x0 W (tabs_of_laid hL)).mono fun e W' ⟨he, hb⟩ => ?_
  subst he
  exact ⟨_, rfl, _, _, _, [], [], [], hW', trodAll_mk1 (shut_bool Tryz.underlying4 _), trodAll_mk1 (shut_agg3 Tryz.underlying25 (by kernel_rfl) (by kernel_rfl) (field_of_Trod (shut_bool Tryz.underlying4 b0) rfl) (field_of_Trod (shut_string Tryz.underlying9 hs0) rfl) (field_of_Trod (shut_int Tryz.underlying3 wx0) rfl)), rfl, hb.frame _, fun h => by cases h⟩

theorem fbits_holds : Rows.FloatBitsSaid :=
  OpenClaim.holds_of_wide 4 Tryz.f4 rfl rfl rfl rfl rfl rfl rfl ⟨rfl, rfl, rfl, rfl, rfl⟩ rfl rfl rfl rfl rfl (by kernel_rfl) Tryz.func4 (by kernel_rfl)
    (of_decide_eq_true (by kernel_rfl)) (by unfold Func.isWrapper; first | (rw [if_pos (by decide +kernel)]; kernel_rfl) | (rw [if_neg (by decide +kernel)]; exact ⟨rfl, rfl⟩))
    (fun os started H enc _ => fbits_lifted os started H enc)

theorem fbits_card : Rows.FloatBitsCardSaid :=
  Claim7.holds_tied_plain_at .later [] [.data, .data, .data, .data, .sentinel, .sentinel, .pinned] true _ true
    fbits_holds (fun _ h => by cases h) (by kernel_rfl) (fun _ h => by cases h) floatBits_row_tie rfl ⟨rfl, rfl⟩ (by kernel_rfl) rfl
    (fun f fn hf hfn => by
      obtain rfl : f = 4 := Option.some.inj ((show Tryz.prog.funcNamed "targum/targumlaw05.FloatBits" = some 4 by kernel_rfl).symm.trans hf) |>.symm
      obtain rfl : fn = Tryz.f4 := (Option.some.inj (Tryz.func4.symm.trans hfn)).symm
      exact ⟨by kernel_rfl, fun j t ht => by
        rw [Tryz.params4] at ht
        have hm : t ∈ [25] := by simpa using Array.mem_of_getElem? ht
        have hall : ([25].all fun u => !Tryz.prog.wantsStandIn u) = true := by kernel_rfl
        exact (show Tryz.prog.wantsStandIn t = false by simpa using List.all_eq_true.1 hall t hm)⟩)
    (by kernel_rfl)
#print axioms fbits_card
end Go.Proofs.YtfobaeoccpebeaaGreatDoor
