/- The statement MpwSizes: its row and its card (the second form). -/
import Derived.Test.YtpjlepkdiaohiaaGreatDoorMP
import Derived.Test.YtpjlepkdiaohiaaGreatDoorMZ
import Derived.Carry
import Derived.Lib.SmallJoins
import Derived.Deep.DeepHandedRow
import Derived.Test.YtpjlepkdiaohiaaGreatDoorMS
namespace Go.Proofs.YtpjlepkdiaohiaaGreatDoor
open Go.ChangeShapes Go.WideShapes Go.ChangeAt Go.WideElems Go.RowKit Go.ChangeMaps

set_option maxRecDepth 100000 in
theorem wsizes_reads (os : Os) {H : Type} (enc : TypeId × Value → H) : ∃ x, DataW.whole enc Tryz.prog ((World.laidAll Tryz.prog os laidL).forCall (fun _ _ => 0) ⟨#[], #[.slice none 0 0], []⟩).memory Tryz.f6.params.toList Rows.mpwSizesSpec.vars false (#[.slice none 0 0] : Array Value).toList 8 = some x ∧ Rows.uptoSmall H (x.1 ++ x.2.1) = true :=
  ⟨([.nil], [], []), by kernel_rfl, by kernel_rfl⟩
set_option maxRecDepth 100000 in
theorem wsizes_lifted (os : Os) (started : os.Started) (H : Type) (enc : TypeId × Value → H) (I : Stop.Interp) :
    ReturnsInHanded {} Tryz.checked os 6 .any ((Rows.OpenSpec.upto Rows.mpwSizesSpec).preRow enc Tryz.prog Tryz.f6 Rows.mpwSizesUptoRow.domain false Rows.mpwSizesUptoRow.laid) (((Rows.OpenSpec.upto Rows.mpwSizesSpec).at I).post enc Tryz.prog Tryz.f6 false true false false) := by
  obtain ⟨x, hx, hk⟩ := wsizes_reads os enc
  refine returnsInHanded_of_row (C := Tryz.checked) (s := Rows.OpenSpec.upto Rows.mpwSizesSpec) own started (by kernel_rfl) Tryz.func6
    ?wit ?_
  case wit =>
    obtain ⟨w, tape, i, h1, h2, h3, h4, h5, h6⟩ := ChangeSpec.witness_shaped (s := Rows.mpwSizesSpec) (fn := Tryz.f6) (conds := []) (apart := false) (f := 6) (enc := enc) (C := Tryz.checked) (os := os) (X := fun w args => (Rows.OpenSpec.upto Rows.mpwSizesSpec).preRow enc Tryz.prog Tryz.f6 Rows.mpwSizesUptoRow.domain false Rows.mpwSizesUptoRow.laid w args) false (World.laidAll Tryz.prog os laidL) #[.slice none 0 0] 8 (wit_os os) (wit_shaped os) (by kernel_rfl) (by kernel_rfl) (by kernel_rfl) (OpenSpec.preRow_of_cond 8 hx (by kernel_rfl) (fun k hk2 => by cases hk2; exact hk) (by kernel_rfl) (wit_met os _))
    exact ⟨w, tape, i, h1, h2, h3, h4, h5.1.2, h6⟩
  intro W base args ds gs before hval0 hW _ hcond _ hL _ _
  have hval : ∀ (j : Nat) t v, Tryz.f6.params[j]? = some t → args[j]? = some v → Value.okWide Tryz.prog W .any base t v := hval0
  have hW' := hW
  obtain ⟨p, q, hA0, hV, rfl, _, _⟩ := hW
  have hA : DataW.TrodAll enc Tryz.prog W 0 (fun _ => true) true Tryz.f6.params.toList args.toList ds p := hA0
  rw [Tryz.params6] at hA hval
  obtain ⟨v0, d0, rfl, rfl, h0⟩ := trodAll_one hA
  obtain ⟨rfl, rfl⟩ := trodVars_none hV
  obtain ⟨l0, a0, c0, f0, rfl, hL0, hwf0, hn0, hbk0⟩ := open_nodes (hval 0 25 v0 rfl rfl) h0
  simp only [List.append_nil] at hW'
  have hlt := hW'.lt
  have hbk := of_decide_eq_true (show decide (Rows.uptoBulkAll _ ≤ 1048576) = true from hcond _ rfl)
  simp only [List.cons_append, List.nil_append, Rows.uptoBulkAll] at hbk
  obtain ⟨ea, eb, hT⟩ := tabs_of_laid hL
  refine (sizes_law15 l0 hwf0 (fun t ht => Nat.le_trans (cnt_mem ht) (by omega)) hn0 a0 c0 f0 W hT hL0).mono fun e W' ⟨he, hb⟩ => ?_
  subst he
  exact ⟨_, rfl, _, _, _, [], _, [], hW', trodAll_mk1 (shut_bool Tryz.underlying4 _), trodAll_mk1 (Below.trod (by kernel_rfl) (by kernel_rfl) (by decide) h0 hb (fun x hx => hlt x (by simp [hx]))), rfl, hb.frame _, fun h => by cases h⟩

theorem wsizes_holds : Rows.MpwSizesUptoSaid :=
  OpenClaim.holds_of_cond 6 Tryz.f6 rfl rfl rfl rfl rfl rfl rfl ⟨rfl, rfl, rfl, rfl, rfl⟩ rfl rfl rfl rfl rfl (by kernel_rfl) Tryz.func6 (by kernel_rfl)
    (of_decide_eq_true (by kernel_rfl)) (by unfold Func.isWrapper; first | (rw [if_pos (by decide +kernel)]; kernel_rfl) | (rw [if_neg (by decide +kernel)]; exact ⟨rfl, rfl⟩))
    (fun os started H enc _ I => by rw [OpenClaim.pre_eq_preRow]; exact wsizes_lifted os started H enc I)

theorem wsizes_card : Rows.MpwSizesUptoCardSaid :=
  Claim7.holds_tied_plain_at .later [] _ _ _ _
    wsizes_holds (fun _ h => by cases h) (by kernel_rfl) (fun _ h => by cases h) mpwSizesUpto_row_tie rfl ⟨rfl, rfl⟩ (by kernel_rfl) rfl
    (fun f fn hf hfn => by
      obtain rfl : f = 6 := Option.some.inj ((show Tryz.prog.funcNamed "targum/targumlaw15.MpwSizes" = some 6 by kernel_rfl).symm.trans hf) |>.symm
      obtain rfl : fn = Tryz.f6 := (Option.some.inj (Tryz.func6.symm.trans hfn)).symm
      exact ⟨by kernel_rfl, fun j t ht => by
        rw [Tryz.params6] at ht
        have hm : t ∈ [25] := by simpa using Array.mem_of_getElem? ht
        have hall : ([25].all fun u => !Tryz.prog.wantsStandIn u) = true := by kernel_rfl
        exact (show Tryz.prog.wantsStandIn t = false by simpa using List.all_eq_true.1 hall t hm)⟩)
    (by kernel_rfl)
#print axioms wsizes_card
end Go.Proofs.YtpjlepkdiaohiaaGreatDoor
