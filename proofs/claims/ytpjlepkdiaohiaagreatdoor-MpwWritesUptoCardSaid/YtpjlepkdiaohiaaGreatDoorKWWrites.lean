/- The statement MpwWrites: its row and its card (the second form). -/
import Derived.Test.YtpjlepkdiaohiaaGreatDoorNMP
import Derived.Test.YtpjlepkdiaohiaaGreatDoorNMY
import Derived.Carry
import Derived.Lib.SmallJoins
import Derived.Deep.DeepHandedRow
import Derived.Test.YtpjlepkdiaohiaaGreatDoorNMS
namespace Go.Proofs.YtpjlepkdiaohiaaGreatDoor
open Go.ChangeShapes Go.WideShapes Go.ChangeAt Go.WideElems Go.RowKit Go.ChangeMaps

set_option maxRecDepth 100000 in
theorem wwrites_reads (os : Os) {H : Type} (enc : TypeId × Value → H) : ∃ x, DataW.whole enc Tryz.prog ((World.laidAll Tryz.prog os laidL).forCall (fun _ _ => 0) ⟨#[], #[.agg #[.int .i64 0, .bool false, .bool false, .string ⟨#[]⟩, .int .i64 0, .int .u64 0, .int .i64 0, .string ⟨#[]⟩, .slice none 0 0]], []⟩).memory Tryz.f4.params.toList Rows.mpwWritesSpec.vars false (#[.agg #[.int .i64 0, .bool false, .bool false, .string ⟨#[]⟩, .int .i64 0, .int .u64 0, .int .i64 0, .string ⟨#[]⟩, .slice none 0 0]] : Array Value).toList 8 = some x ∧ Rows.uptoSmall H (x.1 ++ x.2.1) = true :=
  ⟨([.agg [.lit (.int .i64 0), .lit (.bool false), .agg [.lit (.bool false), .lit (.string []), .lit (.int .i64 0)], .lit (.int .u64 0), .lit (.int .i64 0), .lit (.string []), .nil]], [], []), by kernel_rfl, by kernel_rfl⟩
set_option maxRecDepth 100000 in
theorem wwrites_lifted (os : Os) (started : os.Started) (H : Type) (enc : TypeId × Value → H) (I : Stop.Interp) :
    ReturnsInHanded {} Tryz.checked os 4 .any ((Rows.OpenSpec.upto Rows.mpwWritesSpec).preRow enc Tryz.prog Tryz.f4 Rows.mpwWritesUptoRow.domain false Rows.mpwWritesUptoRow.laid) (((Rows.OpenSpec.upto Rows.mpwWritesSpec).at I).post enc Tryz.prog Tryz.f4 false true false false) := by
  obtain ⟨x, hx, hk⟩ := wwrites_reads os enc
  refine returnsInHanded_of_row (C := Tryz.checked) (s := Rows.OpenSpec.upto Rows.mpwWritesSpec) own started (by kernel_rfl) Tryz.func4
    ?wit ?_
  case wit =>
    obtain ⟨w, tape, i, h1, h2, h3, h4, h5, h6⟩ := ChangeSpec.witness_shaped (s := Rows.mpwWritesSpec) (fn := Tryz.f4) (conds := []) (apart := false) (f := 4) (enc := enc) (C := Tryz.checked) (os := os) (X := fun w args => (Rows.OpenSpec.upto Rows.mpwWritesSpec).preRow enc Tryz.prog Tryz.f4 Rows.mpwWritesUptoRow.domain false Rows.mpwWritesUptoRow.laid w args) false (World.laidAll Tryz.prog os laidL) #[.agg #[.int .i64 0, .bool false, .bool false, .string ⟨#[]⟩, .int .i64 0, .int .u64 0, .int .i64 0, .string ⟨#[]⟩, .slice none 0 0]] 8 (wit_os os) (wit_shaped os) (by kernel_rfl) (by kernel_rfl) (by kernel_rfl) (OpenSpec.preRow_of_cond 8 hx (by kernel_rfl) (fun k hk2 => by cases hk2; exact hk) (by kernel_rfl) (wit_met os _))
    exact ⟨w, tape, i, h1, h2, h3, h4, h5.1.2, h6⟩
  intro W base args ds gs before hval0 hW _ hcond _ hL _ _
  have hval : ∀ (j : Nat) t v, Tryz.f4.params[j]? = some t → args[j]? = some v → Value.okWide Tryz.prog W .any base t v := hval0
  have hW' := hW
  obtain ⟨p, q, hA0, hV, rfl, _, _⟩ := hW
  have hA : DataW.TrodAll enc Tryz.prog W 0 (fun _ => true) true Tryz.f4.params.toList args.toList ds p := hA0
  rw [Tryz.params4] at hA hval
  obtain ⟨v0, d0, rfl, rfl, h0⟩ := trodAll_one hA
  obtain ⟨rfl, rfl⟩ := trodVars_none hV
  obtain ⟨t0, sl0, rfl, hin0, hwf0, m0, hm0⟩ := open_node (hval 0 27 v0 rfl rfl) h0
  simp only [List.append_nil] at hW'
  have hlt := hW'.lt
  have hbk0 : t0.cnt ≤ Rows.uptoBulk d0 := by
    have := bulk_tr m0 _ _ hm0 t0.p sl0 t0.l rfl (by rw [← Tr.eta]; exact hin0)
    rwa [← Tr.eta] at this
  have hbk := of_decide_eq_true (show decide (Rows.uptoBulkAll _ ≤ 1048576) = true from hcond _ rfl)
  simp only [List.cons_append, List.nil_append, Rows.uptoBulkAll] at hbk
  obtain ⟨ea, eb, hT⟩ := tabs_of_laid hL
  refine (writes_law t0 hwf0 (by omega) sl0 W hT hin0).mono fun e W' ⟨he, hb⟩ => ?_
  subst he
  exact ⟨_, rfl, _, _, _, [], _, [], hW', trodAll_mk1 (shut_bool Tryz.underlying4 _), trodAll_mk1 (Below.trod (by kernel_rfl) (by kernel_rfl) (by decide) h0 hb (fun x hx => hlt x (by simp [hx]))), rfl, hb.frame _, fun h => by cases h⟩

theorem wwrites_holds : Rows.MpwWritesUptoSaid :=
  OpenClaim.holds_of_cond 4 Tryz.f4 rfl rfl rfl rfl rfl rfl rfl ⟨rfl, rfl, rfl, rfl, rfl⟩ rfl rfl rfl rfl rfl (by kernel_rfl) Tryz.func4 (by kernel_rfl)
    (of_decide_eq_true (by kernel_rfl)) (by unfold Func.isWrapper; first | (rw [if_pos (by decide +kernel)]; kernel_rfl) | (rw [if_neg (by decide +kernel)]; exact ⟨rfl, rfl⟩))
    (fun os started H enc _ I => by rw [OpenClaim.pre_eq_preRow]; exact wwrites_lifted os started H enc I)

theorem wwrites_card : Rows.MpwWritesUptoCardSaid :=
  Claim7.holds_tied_plain_at .later [] _ _ _ _
    wwrites_holds (fun _ h => by cases h) (by kernel_rfl) (fun _ h => by cases h) mpwWritesUpto_row_tie rfl ⟨rfl, rfl⟩ (by kernel_rfl) rfl
    (fun f fn hf hfn => by
      obtain rfl : f = 4 := Option.some.inj ((show Tryz.prog.funcNamed "targum/targumlaw15.MpwWrites" = some 4 by kernel_rfl).symm.trans hf) |>.symm
      obtain rfl : fn = Tryz.f4 := (Option.some.inj (Tryz.func4.symm.trans hfn)).symm
      exact ⟨by kernel_rfl, fun j t ht => by
        rw [Tryz.params4] at ht
        have hm : t ∈ [27] := by simpa using Array.mem_of_getElem? ht
        have hall : ([27].all fun u => !Tryz.prog.wantsStandIn u) = true := by kernel_rfl
        exact (show Tryz.prog.wantsStandIn t = false by simpa using List.all_eq_true.1 hall t hm)⟩)
    (by kernel_rfl)
#print axioms wwrites_card
end Go.Proofs.YtpjlepkdiaohiaaGreatDoor
