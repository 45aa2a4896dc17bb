/- The statement DecSigns (targumlaw04): walked. -/
import Derived.Test.YtbopikeoaokdpaaDoorDLawA
namespace Go.Proofs.YtbopikeoaokdpaaDoor
open Go.RowKit Go.Shelf
attribute [local go_sem] Oper.semAt_some

theorem below_next {w W W' : World} (h : Below w.heap.size w W) (hb : Below W.heap.size W W') : Below w.heap.size w W' := h.trans (hb.mono h.size)

theorem fmtL_len (d : D) : (fmtL d).length ≤ 1000 := by
  unfold fmtL
  cases h : decR d with
  | false => simp
  | true =>
    have hb := decR_bounds h
    have hi := itoa_len d.ex (by omega)
    have h1 : (fmtB d).length ≤ 900 := by
      unfold fmtB
      split
      · split
        · rw [List.length_append, List.length_replicate]; omega
        · split
          · rw [List.length_append, List.length_append, List.length_take, List.length_drop, List.length_singleton]; omega
          · rw [List.length_append, List.length_append, List.length_replicate]
            have : ([48, 46] : List UInt8).length = 2 := rfl
            omega
      · rw [List.length_append, List.length_append, List.length_singleton]; omega
    rw [if_pos rfl, List.length_append]
    split
    · rw [List.length_singleton]; omega
    · rw [List.length_nil]; omega

theorem signs_plain (t : ByteArray) (x : Int) : ((t.toList == [48]) = true ∧ fmtE ⟨true, tx t, x⟩ = 40) ∨
    ((t.toList == [48]) = false ∧ ((fmtE ⟨false, tx t, x⟩ = 40 ∧ fmtE ⟨true, tx t, x⟩ = 40) ∨ (fmtE ⟨false, tx t, x⟩ = 0 ∧ fmtE ⟨true, tx t, x⟩ = 0 ∧ (⟨#[45]⟩ : ByteArray) ++ B (fmtL ⟨false, tx t, x⟩) = B (fmtL ⟨true, tx t, x⟩)))) := by
  by_cases h : tx t = [48]
  · refine .inl ⟨by rw [beq_iff_eq, Lib.toList_data]; exact h, ?_⟩
    unfold fmtE decR
    rw [if_pos h, Bool.not_true, Bool.and_false]; rfl
  · refine .inr ⟨by rw [beq_eq_false_iff_ne, Lib.toList_data]; exact h, ?_⟩
    have e : decR ⟨true, tx t, x⟩ = decR ⟨false, tx t, x⟩ := by unfold decR; rw [if_neg h, if_neg h]
    unfold fmtE fmtL
    rw [e]
    cases decR ⟨false, tx t, x⟩ with
    | false => exact .inl ⟨rfl, rfl⟩
    | true =>
      refine .inr ⟨rfl, rfl, ?_⟩
      rw [← B_tx (⟨#[45]⟩ ++ B _), tx_app, if_pos rfl, tx_B]; rfl

set_option maxRecDepth 100000 in
set_option maxHeartbeats 4000000 in
theorem signs_law (n : Bool) (s : ByteArray) (x : Int) (w : World) (hT : Tabs w) :
    Calls Tryd.prog 6 #[.agg #[.bool n, .string s, .int .i64 x]] w fun e w' => e = .returned (.bool true) ∧ Below w.heap.size w w' := by
  have hCut := fun W => dCut_calls n s x W
  obtain ⟨t, ht⟩ : ∃ t, pre 200 s = t := ⟨_, rfl⟩
  have hts : t.size ≤ 200 := by rw [← ht]; exact pre_size _ _
  rw [ht] at hCut
  have hp := signs_plain t x
  have hf := fun W h => format_calls false t x (by omega) W h
  have hg := fun W h => format_calls true t x (by omega) W h
  obtain ⟨fa, hfa⟩ : ∃ v, B (fmtL ⟨false, tx t, x⟩) = v := ⟨_, rfl⟩
  obtain ⟨fb, hfb⟩ : ∃ v, B (fmtL ⟨true, tx t, x⟩) = v := ⟨_, rfl⟩
  obtain ⟨ea, hea⟩ : ∃ v, fmtE ⟨false, tx t, x⟩ = v := ⟨_, rfl⟩
  obtain ⟨eb, heb⟩ : ∃ v, fmtE ⟨true, tx t, x⟩ = v := ⟨_, rfl⟩
  rw [hfa, hea] at hf
  rw [hfb, heb] at hg
  rw [hfa, hfb, hea, heb] at hp
  have hfs : fa.size ≤ 1000 := by rw [← hfa, size_B]; exact fmtL_len _
  clear hfa hfb hea heb ht
  have hBx := Cls.new w 24 [.bool n, .string s, .int .i64 x]
  have hWx := below_alloc w (.cells #[.bool n, .string s, .int .i64 x] 24)
  rcases hp with ⟨hz, rfl⟩ | ⟨hz, ⟨rfl, rfl⟩ | ⟨rfl, rfl, hp⟩⟩
  all_goals (
    go_enter Tryd.func6, Tryd.ntmps6
    go_wp2_with fail
    refine (dshown_calls _ (hT.below hWx)).mono ?_
    rintro e w1 ⟨rfl, hb1⟩
    have hW1 := hWx.trans (hb1.mono hWx.size)
    have hD1 := hBx.below hb1
    have D_0 := hD1.cell 0 rfl
    have D_z0 := hD1.frozen 0
    have D_1 := hD1.cell 1 rfl
    have D_z1 := hD1.frozen 1
    have D_2 := hD1.cell 2 rfl
    have D_z2 := hD1.frozen 2
    go_wp2_with fail
    refine (hCut _).mono ?_
    rintro e w2 ⟨rfl, hb2⟩
    have hW2 := hW1.trans (hb2.mono hW1.size)
    have hD2 := hD1.below hb2
    clear D_0 D_z0 D_1 D_z1 D_2 D_z2
    have D_0 := hD2.cell 0 rfl
    have D_z0 := hD2.frozen 0
    have D_1 := hD2.cell 1 rfl
    have D_z1 := hD2.frozen 1
    have D_2 := hD2.cell 2 rfl
    have D_z2 := hD2.frozen 2
    have hD3 := ((hD2.set 0 (.bool n)).set 1 (.string t)).set 2 (.int .i64 x)
    have hW3 := ((hW2.setCell (p := ⟨w.heap.size, 0, none⟩) (Nat.le_refl _) (.bool n)).setCell (p := ⟨w.heap.size, 1, none⟩) (Nat.le_refl _) (.string t)).setCell (p := ⟨w.heap.size, 2, none⟩) (Nat.le_refl _) (.int .i64 x)
    have hD4 := hD3.set 0 (.bool false)
    have hW4 := hW3.setCell (p := ⟨w.heap.size, 0, none⟩) (Nat.le_refl _) (.bool false)
    go_wp2_with fail
    generalize (((w2.setCell ⟨w.heap.size, 0, none⟩ (.bool n)).setCell ⟨w.heap.size, 1, none⟩ (.string t)).setCell ⟨w.heap.size, 2, none⟩ (.int .i64 x)).setCell ⟨w.heap.size, 0, none⟩ (.bool false) = V5 at *
    clear D_0 D_z0 D_1 D_z1 D_2 D_z2
    refine (hf _ (hT.below hW4)).mono ?_
    rintro e w6 ⟨rfl, hb6⟩
    have hW6 := hW4.trans (hb6.mono hW4.size)
    have hD6 := hD4.below hb6
    have D_0 := hD6.cell 0 rfl
    have D_z0 := hD6.frozen 0
    have D_1 := hD6.cell 1 rfl
    have D_z1 := hD6.frozen 1
    have D_2 := hD6.cell 2 rfl
    have D_z2 := hD6.frozen 2
    have hD7 := hD6.set 0 (.bool true)
    have hW7 := hW6.setCell (p := ⟨w.heap.size, 0, none⟩) (Nat.le_refl _) (.bool true)
    go_wp2_with fail
    generalize (w6).setCell ⟨w.heap.size, 0, none⟩ (.bool true) = V8 at *
    clear D_0 D_z0 D_1 D_z1 D_2 D_z2
    refine (hg _ (hT.below hW7)).mono ?_
    rintro e w9 ⟨rfl, hb9⟩
    have hW9 := hW7.trans (hb9.mono hW7.size)
    have hD9 := hD7.below hb9
    have D_0 := hD9.cell 0 rfl
    have D_1 := hD9.cell 1 rfl
    have D_2 := hD9.cell 2 rfl
    go_wp2
    go_ret
    exact ⟨rfl, hW9⟩)
end Go.Proofs.YtbopikeoaokdpaaDoor
