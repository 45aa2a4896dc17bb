/- The statement TreeParts: its row and its card (the second form). -/
import Derived.Test.YtdfoajclakjelaaGreatDoorTH
import Derived.Test.YtdfoajclakjelaaGreatDoorTN
import Derived.Carry
import Derived.Lib.SmallJoins
import Derived.Deep.DeepHandedRow
namespace Go.Proofs.YtdfoajclakjelaaGreatDoor
open Go.ChangeShapes Go.WideShapes Go.ChangeAt Go.WideElems Go.RowKit Go.ChangeMaps

set_option maxRecDepth 100000 in
theorem tparts_reads (os : Os) {H : Type} (enc : TypeId × Value → H) : ∃ x, DataW.whole enc Tryz.prog ((World.laidAll Tryz.prog os laidL).forCall (fun _ _ => 0) ⟨#[], #[.agg #[.int .i64 0, .bool false, .bool false, .string ⟨#[]⟩, .int .i64 0, .int .u64 0, .int .i64 0, .string ⟨#[]⟩, .slice none 0 0], .int .i64 0], []⟩).memory Tryz.f5.params.toList Rows.treePartsSpec.vars false (#[.agg #[.int .i64 0, .bool false, .bool false, .string ⟨#[]⟩, .int .i64 0, .int .u64 0, .int .i64 0, .string ⟨#[]⟩, .slice none 0 0], .int .i64 0] : Array Value).toList 8 = some x ∧ Rows.uptoSmall H (x.1 ++ x.2.1) = true :=
  ⟨([.agg [.lit (.int .i64 0), .lit (.bool false), .agg [.lit (.bool false), .lit (.string []), .lit (.int .i64 0)], .lit (.int .u64 0), .lit (.int .i64 0), .lit (.string []), .nil], .lit (.int .i64 0)], [], []), by kernel_rfl, by kernel_rfl⟩
set_option maxRecDepth 100000 in
theorem tparts_lifted (os : Os) (started : os.Started) (H : Type) (enc : TypeId × Value → H) (I : Stop.Interp) :
    ReturnsInHanded {} Tryz.checked os 5 .any ((Rows.OpenSpec.upto Rows.treePartsSpec).preRow enc Tryz.prog Tryz.f5 Rows.treePartsUptoRow.domain false Rows.treePartsUptoRow.laid) (((Rows.OpenSpec.upto Rows.treePartsSpec).at I).post enc Tryz.prog Tryz.f5 false true false false) := by
  obtain ⟨x, hx, hk⟩ := tparts_reads os enc
  refine returnsInHanded_of_row (C := Tryz.checked) (s := Rows.OpenSpec.upto Rows.treePartsSpec) own started (by kernel_rfl) Tryz.func5
    ?wit ?_
  case wit =>
    obtain ⟨w, tape, i, h1, h2, h3, h4, h5, h6⟩ := ChangeSpec.witness_shaped (s := Rows.treePartsSpec) (fn := Tryz.f5) (conds := []) (apart := false) (f := 5) (enc := enc) (C := Tryz.checked) (os := os) (X := fun w args => (Rows.OpenSpec.upto Rows.treePartsSpec).preRow enc Tryz.prog Tryz.f5 Rows.treePartsUptoRow.domain false Rows.treePartsUptoRow.laid w args) false (World.laidAll Tryz.prog os laidL) #[.agg #[.int .i64 0, .bool false, .bool false, .string ⟨#[]⟩, .int .i64 0, .int .u64 0, .int .i64 0, .string ⟨#[]⟩, .slice none 0 0], .int .i64 0] 8 (wit_os os) (wit_shaped os) (by kernel_rfl) (by kernel_rfl) (by kernel_rfl) (OpenSpec.preRow_of_cond 8 hx (by kernel_rfl) (fun k hk2 => by cases hk2; exact hk) (by kernel_rfl) (wit_met os _))
    exact ⟨w, tape, i, h1, h2, h3, h4, h5.1.2, h6⟩
  intro W base args ds gs before hval0 hW _ hcond _ hL _ _
  have hval : ∀ (j : Nat) t v, Tryz.f5.params[j]? = some t → args[j]? = some v → Value.okWide Tryz.prog W .any base t v := hval0
  have hW' := hW
  obtain ⟨p, q, hA0, hV, rfl, _, _⟩ := hW
  have hA : DataW.TrodAll enc Tryz.prog W 0 (fun _ => true) true Tryz.f5.params.toList args.toList ds p := hA0
  rw [Tryz.params5] at hA hval
  obtain ⟨v0, v1, d0, d1, p0, p1, rfl, rfl, rfl, h0, h1⟩ := trodAll_two hA
  obtain ⟨rfl, rfl⟩ := trodVars_none hV
  obtain ⟨t0, sl0, rfl, hin0, hwf0, m0, hm0⟩ := open_node (hval 0 27 v0 rfl rfl) h0
  obtain ⟨x1, rfl, rfl, rfl, wx1⟩ := open_int Tryz.underlying3 (hval 1 3 v1 rfl rfl) h1
  simp only [List.append_nil] at hW'
  have hlt := hW'.lt
  have hbk0 : t0.cnt ≤ Rows.uptoBulk d0 := by
    have := bulk_tr m0 _ _ hm0 t0.p sl0 t0.l rfl (by rw [← Tr.eta]; exact hin0)
    rwa [← Tr.eta] at this
  have hbk := of_decide_eq_true (show decide (Rows.uptoBulkAll _ ≤ 1048576) = true from hcond _ rfl)
  simp only [List.cons_append, List.nil_append, Rows.uptoBulkAll] at hbk
  obtain ⟨ea, eb, hT⟩ := tabs_of_laid hL
  refine (parts_law t0 hwf0 (by omega) x1 sl0 W hT hin0).mono fun e W' ⟨he, hb⟩ => ?_
  subst he
  exact ⟨_, rfl, _, _, _, [], _, [], hW', trodAll_mk1 (shut_bool Tryz.underlying4 _), trodAll_mk2 (Below.trod (by kernel_rfl) (by kernel_rfl) (by decide) h0 hb (fun x hx => hlt x (by simp [hx]))) (shut_int Tryz.underlying3 wx1), rfl, hb.frame _, fun h => by cases h⟩

theorem tparts_holds : Rows.TreePartsUptoSaid :=
  OpenClaim.holds_of_cond 5 Tryz.f5 rfl rfl rfl rfl rfl rfl rfl ⟨rfl, rfl, rfl, rfl, rfl⟩ rfl rfl rfl rfl rfl (by kernel_rfl) Tryz.func5 (by kernel_rfl)
    (of_decide_eq_true (by kernel_rfl)) (by unfold Func.isWrapper; first | (rw [if_pos (by decide +kernel)]; kernel_rfl) | (rw [if_neg (by decide +kernel)]; exact ⟨rfl, rfl⟩))
    (fun os started H enc _ I => by rw [OpenClaim.pre_eq_preRow]; exact tparts_lifted os started H enc I)

theorem tparts_card : Rows.TreePartsUptoCardSaid :=
  Claim7.holds_tied_plain_at .later [] _ _ _ _
    tparts_holds (fun _ h => by cases h) (by kernel_rfl) (fun _ h => by cases h) treePartsUpto_row_tie rfl ⟨rfl, rfl⟩ (by kernel_rfl) rfl
    (fun f fn hf hfn => by
      obtain rfl : f = 5 := Option.some.inj ((show Tryz.prog.funcNamed "targum/targumlaw06.TreeParts" = some 5 by kernel_rfl).symm.trans hf) |>.symm
      obtain rfl : fn = Tryz.f5 := (Option.some.inj (Tryz.func5.symm.trans hfn)).symm
      exact ⟨by kernel_rfl, fun j t ht => by
        rw [Tryz.params5] at ht
        have hm : t ∈ [27, 3] := by simpa using Array.mem_of_getElem? ht
        have hall : ([27, 3].all fun u => !Tryz.prog.wantsStandIn u) = true := by kernel_rfl
        exact (show Tryz.prog.wantsStandIn t = false by simpa using List.all_eq_true.1 hall t hm)⟩)
    (by kernel_rfl)
#print axioms tparts_card
end Go.Proofs.YtdfoajclakjelaaGreatDoor
