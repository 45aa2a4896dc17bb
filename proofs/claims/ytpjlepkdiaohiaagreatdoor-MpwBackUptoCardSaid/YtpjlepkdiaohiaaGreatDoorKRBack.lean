/- The statement MpwBack: its row and its card (the second form). -/
import Derived.Test.YtpjlepkdiaohiaaGreatDoorBMU
import Derived.Test.YtpjlepkdiaohiaaGreatDoorBMZ
import Derived.Carry
import Derived.Lib.SmallJoins
import Derived.Deep.DeepHandedRow
import Derived.Test.YtpjlepkdiaohiaaGreatDoorBMS
namespace Go.Proofs.YtpjlepkdiaohiaaGreatDoor
open Go.ChangeShapes Go.WideShapes Go.ChangeAt Go.WideElems Go.RowKit Go.ChangeMaps

set_option maxRecDepth 100000 in
theorem mback_reads (os : Os) {H : Type} (enc : TypeId × Value → H) : ∃ x, DataW.whole enc Tryz.prog ((World.laidAll Tryz.prog os laidL).forCall (fun _ _ => 0) ⟨#[], #[.agg #[.int .i64 0, .bool false, .bool false, .string ⟨#[]⟩, .int .i64 0, .int .u64 0, .int .i64 0, .string ⟨#[]⟩, .slice none 0 0], .string ⟨#[]⟩], []⟩).memory Tryz.f13.params.toList Rows.mpwBackSpec.vars false (#[.agg #[.int .i64 0, .bool false, .bool false, .string ⟨#[]⟩, .int .i64 0, .int .u64 0, .int .i64 0, .string ⟨#[]⟩, .slice none 0 0], .string ⟨#[]⟩] : Array Value).toList 8 = some x ∧ Rows.uptoSmall H (x.1 ++ x.2.1) = true :=
  ⟨([.agg [.lit (.int .i64 0), .lit (.bool false), .agg [.lit (.bool false), .lit (.string []), .lit (.int .i64 0)], .lit (.int .u64 0), .lit (.int .i64 0), .lit (.string []), .nil], .lit (.string [])], [], []), by kernel_rfl, by kernel_rfl⟩
set_option maxRecDepth 100000 in
theorem mback_lifted (os : Os) (started : os.Started) (H : Type) (enc : TypeId × Value → H) (I : Stop.Interp) :
    ReturnsInHanded {} Tryz.checked os 13 .any ((Rows.OpenSpec.upto Rows.mpwBackSpec).preRow enc Tryz.prog Tryz.f13 Rows.mpwBackUptoRow.domain false Rows.mpwBackUptoRow.laid) (((Rows.OpenSpec.upto Rows.mpwBackSpec).at I).post enc Tryz.prog Tryz.f13 false true false false) := by
  obtain ⟨x, hx, hk⟩ := mback_reads os enc
  refine returnsInHanded_of_row (C := Tryz.checked) (s := Rows.OpenSpec.upto Rows.mpwBackSpec) own started (by kernel_rfl) Tryz.func13
    ?wit ?_
  case wit =>
    obtain ⟨w, tape, i, h1, h2, h3, h4, h5, h6⟩ := ChangeSpec.witness_shaped (s := Rows.mpwBackSpec) (fn := Tryz.f13) (conds := []) (apart := false) (f := 13) (enc := enc) (C := Tryz.checked) (os := os) (X := fun w args => (Rows.OpenSpec.upto Rows.mpwBackSpec).preRow enc Tryz.prog Tryz.f13 Rows.mpwBackUptoRow.domain false Rows.mpwBackUptoRow.laid w args) false (World.laidAll Tryz.prog os laidL) #[.agg #[.int .i64 0, .bool false, .bool false, .string ⟨#[]⟩, .int .i64 0, .int .u64 0, .int .i64 0, .string ⟨#[]⟩, .slice none 0 0], .string ⟨#[]⟩] 8 (wit_os os) (wit_shaped os) (by kernel_rfl) (by kernel_rfl) (by kernel_rfl) (OpenSpec.preRow_of_cond 8 hx (by kernel_rfl) (fun k hk2 => by cases hk2; exact hk) (by kernel_rfl) (wit_met os _))
    exact ⟨w, tape, i, h1, h2, h3, h4, h5.1.2, h6⟩
  intro W base args ds gs before hval0 hW _ hcond _ hL _ _
  have hval : ∀ (j : Nat) t v, Tryz.f13.params[j]? = some t → args[j]? = some v → Value.okWide Tryz.prog W .any base t v := hval0
  have hW' := hW
  obtain ⟨p, q, hA0, hV, rfl, _, _⟩ := hW
  have hA : DataW.TrodAll enc Tryz.prog W 0 (fun _ => true) true Tryz.f13.params.toList args.toList ds p := hA0
  rw [Tryz.params13] at hA hval
  obtain ⟨v0, v1, d0, d1, p0, p1, rfl, rfl, rfl, h0, h1⟩ := trodAll_two hA
  obtain ⟨rfl, rfl⟩ := trodVars_none hV
  obtain ⟨t0, sl0, rfl, hin0, hwf0, m0, hm0⟩ := open_node (hval 0 27 v0 rfl rfl) h0
  obtain ⟨s1, rfl, rfl, rfl, hs1⟩ := open_string Tryz.underlying9 (hval 1 9 v1 rfl rfl) h1
  simp only [List.append_nil] at hW'
  have hlt := hW'.lt
  have hbk0 : t0.cnt ≤ Rows.uptoBulk d0 := by
    have := bulk_tr m0 _ _ hm0 t0.p sl0 t0.l rfl (by rw [← Tr.eta]; exact hin0)
    rwa [← Tr.eta] at this
  have hbk := of_decide_eq_true (show decide (Rows.uptoBulkAll _ ≤ 1048576) = true from hcond _ rfl)
  simp only [List.cons_append, List.nil_append, Rows.uptoBulkAll] at hbk
  obtain ⟨ea, eb, hT⟩ := tabs_of_laid hL
  refine (back_law t0 hwf0 (by omega) s1 sl0 W hT hin0).mono fun e W' ⟨he, hb⟩ => ?_
  subst he
  exact ⟨_, rfl, _, _, _, [], _, [], hW', trodAll_mk1 (shut_bool Tryz.underlying4 _), trodAll_mk2 (Below.trod (by kernel_rfl) (by kernel_rfl) (by decide) h0 hb (fun x hx => hlt x (by simp [hx]))) (shut_string Tryz.underlying9 hs1), rfl, hb.frame _, fun h => by cases h⟩

theorem mback_holds : Rows.MpwBackUptoSaid :=
  OpenClaim.holds_of_cond 13 Tryz.f13 rfl rfl rfl rfl rfl rfl rfl ⟨rfl, rfl, rfl, rfl, rfl⟩ rfl rfl rfl rfl rfl (by kernel_rfl) Tryz.func13 mback_closed
    (of_decide_eq_true (by kernel_rfl)) (by unfold Func.isWrapper; first | (rw [if_pos (by decide +kernel)]; kernel_rfl) | (rw [if_neg (by decide +kernel)]; exact ⟨rfl, rfl⟩))
    (fun os started H enc _ I => by rw [OpenClaim.pre_eq_preRow]; exact mback_lifted os started H enc I)

theorem mback_card : Rows.MpwBackUptoCardSaid :=
  Claim7.holds_tied_plain_at .later [] _ _ _ _
    mback_holds (fun _ h => by cases h) (by kernel_rfl) (fun _ h => by cases h) mpwBackUpto_row_tie rfl ⟨rfl, rfl⟩ (by kernel_rfl) rfl
    (fun f fn hf hfn => by
      obtain rfl : f = 13 := Option.some.inj ((show Tryz.prog.funcNamed "targum/targumlaw15.MpwBack" = some 13 by kernel_rfl).symm.trans hf) |>.symm
      obtain rfl : fn = Tryz.f13 := (Option.some.inj (Tryz.func13.symm.trans hfn)).symm
      exact ⟨by kernel_rfl, fun j t ht => by
        rw [Tryz.params13] at ht
        have hm : t ∈ [27, 9] := by simpa using Array.mem_of_getElem? ht
        have hall : ([27, 9].all fun u => !Tryz.prog.wantsStandIn u) = true := by kernel_rfl
        exact (show Tryz.prog.wantsStandIn t = false by simpa using List.all_eq_true.1 hall t hm)⟩)
    (by kernel_rfl)
#print axioms mback_card
end Go.Proofs.YtpjlepkdiaohiaaGreatDoor
