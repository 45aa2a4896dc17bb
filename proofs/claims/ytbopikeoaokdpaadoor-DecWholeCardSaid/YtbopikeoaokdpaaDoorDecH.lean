/- Package dec: Format: decimals not below 0: walked. -/
import Derived.Test.YtbopikeoaokdpaaDoorDecG
namespace Go.Proofs.YtbopikeoaokdpaaDoor
open Go.RowKit
attribute [local go_sem] Oper.semAt_some



set_option maxRecDepth 100000 in
set_option maxHeartbeats 4000000 in
theorem format_pexp (s : ByteArray) (x : Int) (w : World) (hT : Tabs w) (hyes : decR ⟨false, tx s, x⟩ = true) (hk : (decide (-20 ≤ x) && decide (x ≤ 20)) = false) :
    Calls Tryd.prog 13 #[.agg #[.bool false, .string s, .int .i64 x]] w fun e w' => e = .returned (.tuple #[.string (B ([] ++ fmtB ⟨false, tx s, x⟩)), .int .i64 0]) ∧ Below w.heap.size w w' := by
  have hbd := decR_bounds hyes
  rw [txs_len] at hbd
  obtain ⟨hs1, hs2, hx1, hx2⟩ := hbd
  change -100 ≤ x at hx1
  change x ≤ 100 at hx2
  have hright := fun W => decRight_calls false s x (by omega) W
  rw [hyes] at hright
  have hw := fun W => same_symm (within_calls x 20 (by omega) (by omega) W)
  change ∀ W, Calls _ _ _ _ fun e w' => e = .returned (.bool (decide (-20 ≤ x) && decide (x ≤ 20))) ∧ _ at hw
  rw [hk] at hw
  have hC := Cls.new w 24 [.bool false, .string s, .int .i64 x]
  have hA := below_alloc w (.cells #[.bool false, .string s, .int .i64 x] 24)
  have hl := txs_len s
  have hF := hid (show fmtB ⟨false, tx s, x⟩ = tx s ++ [101] ++ Lib.itoa x by unfold fmtB; rw [if_neg]; show ¬ (decide (-20 ≤ x) && decide (x ≤ 20)) = true; rw [hk]; decide)
  have hit := fun W h => itoa_calls x (by omega) (by omega) W h
  obtain ⟨q, hq⟩ : ∃ q, B (Lib.itoa x) = q := ⟨_, rfl⟩
  have hqx : tx q = Lib.itoa x := by rw [← hq, tx_B]
  have hqs : q.size ≤ 10 := by rw [← txs_len, hqx]; exact itoa_len x (by omega)
  rw [hq] at hit
  have HQ := hid hqx
  clear hqx hq
  clear hyes hk hl
  go_enter Tryd.func13, Tryd.ntmps13
  go_wp2_with fail
  refine (hright _).mono ?_
  rintro e w1 ⟨rfl, hb1⟩
  have hC1 := hC.below hb1
  have hW1 := hA.trans (hb1.mono hA.size)
  have hl1 := hC1.lt
  have hC2 := hC1.alloc (.cells #[.pointer none, .slice none 0 0] 58)
  have hW2 := hW1.alloc hW1.size (.cells #[.pointer none, .slice none 0 0] 58)
  have hB2 := Bld.new w1
  obtain ⟨g, hg⟩ : ∃ g, w1.heap.size = g := ⟨_, rfl⟩
  rw [hg] at hB2 hl1
  have hz2' : (w1.alloc (.cells #[.pointer none, .slice none 0 0] 58)).heap.size = g + 1 := by rw [World.size_alloc, hg]
  have c0 := hC2.cell 0 rfl
  have c1 := hC2.cell 1 rfl
  have c2 := hC2.cell 2 rfl
  have HG := hid hg
  go_wp2_with fail
  generalize w1.alloc (.cells #[.pointer none, .slice none 0 0] 58) = w3 at *
  have hC3 := hC2
  have hW3 := hW2
  have hB3 := hB2
  have hs3 : g + 1 ≤ w3.heap.size := by omega
  clear hC2 hW2 hB2
  refine (hw _).mono ?_
  rintro e w3' ⟨rfl, rfl⟩
  have hT3 := hT.below hW3
  clear hg
  go_wp2
  have sz1 : (⟨#[101]⟩ : ByteArray).size = 1 := rfl
  have sz2 : (⟨#[46]⟩ : ByteArray).size = 1 := rfl
  have sz3 : (⟨#[48, 46]⟩ : ByteArray).size = 2 := rfl
  have hl3 := hC3.lt
  have HB3 := hid hB3
  go_region_with (first
    | (go_at_call 29; refine (hit _ hT3.drew).mono ?_; rintro e w4 ⟨rfl, hb4⟩; have HB : Bld w4 g ([]) := Bld.below (W := w3.drew) HB3.out hb4; have hC4 : Cls w4 w.heap.size 24 _ := (hb4.block w.heap.size hl3).trans hC3; have e0 := hC4.cell 0 rfl; have e1 := hC4.cell 1 rfl; have e2 := hC4.cell 2 rfl; have hs4 : g + 1 ≤ w4.heap.size := Nat.le_trans hs3 hb4.size)
    | (go_at_call 28; refine (bldS g ([]) _ _ HB (by simp only [size_app, sz1, List.length_nil]; omega) (by omega)).mono ?_; rintro e w5 ⟨rfl, hB5, hb5⟩))
  all_goals (
    go_wp2_with (go_at_call 31; refine (bldStr g _ _ hB5 (by have := hb5.size; omega)).mono ?_; rintro e w6 ⟨rfl, hb6⟩)
    go_ret2
    have hW4 : Below w.heap.size w w4 := hW3.drew.trans (hb4.mono hW3.drew.size)
    have hW5 : Below w.heap.size w w5 := hW4.trans (hb5.mono (by omega))
    refine ⟨?_, hW5.trans (hb6.mono (by omega))⟩
    rw [hF.out, tx_app, tx_app, HQ.out]
    rfl)

set_option maxRecDepth 100000 in
set_option maxHeartbeats 4000000 in
theorem format_ppos (s : ByteArray) (x : Int) (w : World) (hT : Tabs w) (hyes : decR ⟨false, tx s, x⟩ = true) (hk : (decide (-20 ≤ x) && decide (x ≤ 20)) = true) (h0 : 0 ≤ x) :
    Calls Tryd.prog 13 #[.agg #[.bool false, .string s, .int .i64 x]] w fun e w' => e = .returned (.tuple #[.string (B ([] ++ fmtB ⟨false, tx s, x⟩)), .int .i64 0]) ∧ Below w.heap.size w w' := by
  have hbd := decR_bounds hyes
  rw [txs_len] at hbd
  obtain ⟨hs1, hs2, hx1, hx2⟩ := hbd
  change -100 ≤ x at hx1
  change x ≤ 100 at hx2
  have hright := fun W => decRight_calls false s x (by omega) W
  rw [hyes] at hright
  have hw := fun W => same_symm (within_calls x 20 (by omega) (by omega) W)
  change ∀ W, Calls _ _ _ _ fun e w' => e = .returned (.bool (decide (-20 ≤ x) && decide (x ≤ 20))) ∧ _ at hw
  rw [hk] at hw
  have hC := Cls.new w 24 [.bool false, .string s, .int .i64 x]
  have hA := below_alloc w (.cells #[.bool false, .string s, .int .i64 x] 24)
  have hl := txs_len s
  obtain ⟨c, rfl⟩ := Int.eq_ofNat_of_zero_le h0
  have hF := hid (show fmtB ⟨false, tx s, (c : Int)⟩ = tx s ++ List.replicate c 48 by unfold fmtB; rw [if_pos (show (decide (-20 ≤ (c : Int)) && decide ((c : Int) ≤ 20)) = true from hk), if_pos (show 0 ≤ (c : Int) by omega)]; rfl)
  have hit := fun W => repeat_calls c (by omega) W
  obtain ⟨q, hq⟩ : ∃ q, B (List.replicate c (48 : UInt8)) = q := ⟨_, rfl⟩
  have hqx : tx q = List.replicate c 48 := by rw [← hq, tx_B]
  have hqs : q.size ≤ 100 := by rw [← txs_len, hqx, List.length_replicate]; omega
  rw [hq] at hit
  have HQ := hid hqx
  clear hqx hq
  clear hyes hk hl
  go_enter Tryd.func13, Tryd.ntmps13
  go_wp2_with fail
  refine (hright _).mono ?_
  rintro e w1 ⟨rfl, hb1⟩
  have hC1 := hC.below hb1
  have hW1 := hA.trans (hb1.mono hA.size)
  have hl1 := hC1.lt
  have hC2 := hC1.alloc (.cells #[.pointer none, .slice none 0 0] 58)
  have hW2 := hW1.alloc hW1.size (.cells #[.pointer none, .slice none 0 0] 58)
  have hB2 := Bld.new w1
  obtain ⟨g, hg⟩ : ∃ g, w1.heap.size = g := ⟨_, rfl⟩
  rw [hg] at hB2 hl1
  have hz2' : (w1.alloc (.cells #[.pointer none, .slice none 0 0] 58)).heap.size = g + 1 := by rw [World.size_alloc, hg]
  have c0 := hC2.cell 0 rfl
  have c1 := hC2.cell 1 rfl
  have c2 := hC2.cell 2 rfl
  have HG := hid hg
  go_wp2_with fail
  generalize w1.alloc (.cells #[.pointer none, .slice none 0 0] 58) = w3 at *
  have hC3 := hC2
  have hW3 := hW2
  have hB3 := hB2
  have hs3 : g + 1 ≤ w3.heap.size := by omega
  clear hC2 hW2 hB2
  refine (hw _).mono ?_
  rintro e w3' ⟨rfl, rfl⟩
  have hT3 := hT.below hW3
  clear hg
  go_wp2
  have sz1 : (⟨#[101]⟩ : ByteArray).size = 1 := rfl
  have sz2 : (⟨#[46]⟩ : ByteArray).size = 1 := rfl
  have sz3 : (⟨#[48, 46]⟩ : ByteArray).size = 2 := rfl
  have hl3 := hC3.lt
  have HB3 := hid hB3
  go_region_with (first
    | (go_at_call 30; refine (hit _).mono ?_; rintro e w4 ⟨rfl, hb4⟩; have HB : Bld w4 g ([]) := Bld.below (W := w3.drew) HB3.out hb4; have hC4 : Cls w4 w.heap.size 24 _ := (hb4.block w.heap.size hl3).trans hC3; have e0 := hC4.cell 0 rfl; have e1 := hC4.cell 1 rfl; have e2 := hC4.cell 2 rfl; have hs4 : g + 1 ≤ w4.heap.size := Nat.le_trans hs3 hb4.size)
    | (go_at_call 28; refine (bldS g ([]) _ _ HB (by simp only [size_app, List.length_nil]; omega) (by omega)).mono ?_; rintro e w5 ⟨rfl, hB5, hb5⟩))
  all_goals (
    go_wp2_with (go_at_call 31; refine (bldStr g _ _ hB5 (by have := hb5.size; omega)).mono ?_; rintro e w6 ⟨rfl, hb6⟩)
    go_ret2
    have hW4 : Below w.heap.size w w4 := hW3.drew.trans (hb4.mono hW3.drew.size)
    have hW5 : Below w.heap.size w w5 := hW4.trans (hb5.mono (by omega))
    refine ⟨?_, hW5.trans (hb6.mono (by omega))⟩
    rw [hF.out, tx_app,  HQ.out]
    rfl)

set_option maxRecDepth 100000 in
set_option maxHeartbeats 4000000 in
theorem format_pmid (s : ByteArray) (x : Int) (w : World) (hT : Tabs w) (hyes : decR ⟨false, tx s, x⟩ = true) (hk : (decide (-20 ≤ x) && decide (x ≤ 20)) = true) (h0 : x < 0) (h1 : 0 < (s.size : Int) + x) :
    Calls Tryd.prog 13 #[.agg #[.bool false, .string s, .int .i64 x]] w fun e w' => e = .returned (.tuple #[.string (B ([] ++ fmtB ⟨false, tx s, x⟩)), .int .i64 0]) ∧ Below w.heap.size w w' := by
  have hbd := decR_bounds hyes
  rw [txs_len] at hbd
  obtain ⟨hs1, hs2, hx1, hx2⟩ := hbd
  change -100 ≤ x at hx1
  change x ≤ 100 at hx2
  have hright := fun W => decRight_calls false s x (by omega) W
  rw [hyes] at hright
  have hw := fun W => same_symm (within_calls x 20 (by omega) (by omega) W)
  change ∀ W, Calls _ _ _ _ fun e w' => e = .returned (.bool (decide (-20 ≤ x) && decide (x ≤ 20))) ∧ _ at hw
  rw [hk] at hw
  have hC := Cls.new w 24 [.bool false, .string s, .int .i64 x]
  have hA := below_alloc w (.cells #[.bool false, .string s, .int .i64 x] 24)
  have hl := txs_len s
  obtain ⟨m, hm⟩ : ∃ m : Nat, (s.size : Int) + x = (m : Int) := ⟨((s.size : Int) + x).toNat, by omega⟩
  have hF := hid (show fmtB ⟨false, tx s, x⟩ = (tx s).take m ++ [46] ++ (tx s).drop m by unfold fmtB; rw [if_pos (show (decide (-20 ≤ x) && decide (x ≤ 20)) = true from hk), if_neg (show ¬ 0 ≤ x by omega), if_pos (show 0 < ((tx s).length : Int) + x by rw [hl]; omega)]; show (tx s).take (((tx s).length : Int) + x).toNat ++ [46] ++ (tx s).drop (((tx s).length : Int) + x).toNat = _; rw [hl, hm]; rfl)
  have hms : m ≤ s.size := by omega
  have hm0 : 0 < m := by omega
  have hx1' : tx (s.extract 0 m) = (tx s).take m := extract_take s m
  have hx2' : tx (s.extract m s.size) = (tx s).drop m := by unfold tx; rw [Lib.extract_data, List.take_of_length_le (by rw [List.length_drop, len_str]; omega)]
  have hz1 : (s.extract 0 m).size ≤ 100 := by rw [← txs_len, hx1', List.length_take]; omega
  have hz2 : (s.extract m s.size).size ≤ 100 := by rw [← txs_len, hx2', List.length_drop]; omega
  have HX := hid (And.intro hx1' hx2')
  have HZ := hid (And.intro hz1 hz2)
  clear hx1' hx2' hz1 hz2
  clear hyes hk hl
  go_enter Tryd.func13, Tryd.ntmps13
  go_wp2_with fail
  refine (hright _).mono ?_
  rintro e w1 ⟨rfl, hb1⟩
  have hC1 := hC.below hb1
  have hW1 := hA.trans (hb1.mono hA.size)
  have hl1 := hC1.lt
  have hC2 := hC1.alloc (.cells #[.pointer none, .slice none 0 0] 58)
  have hW2 := hW1.alloc hW1.size (.cells #[.pointer none, .slice none 0 0] 58)
  have hB2 := Bld.new w1
  obtain ⟨g, hg⟩ : ∃ g, w1.heap.size = g := ⟨_, rfl⟩
  rw [hg] at hB2 hl1
  have hz2' : (w1.alloc (.cells #[.pointer none, .slice none 0 0] 58)).heap.size = g + 1 := by rw [World.size_alloc, hg]
  have c0 := hC2.cell 0 rfl
  have c1 := hC2.cell 1 rfl
  have c2 := hC2.cell 2 rfl
  have HG := hid hg
  go_wp2_with fail
  generalize w1.alloc (.cells #[.pointer none, .slice none 0 0] 58) = w3 at *
  have hC3 := hC2
  have hW3 := hW2
  have hB3 := hB2
  have hs3 : g + 1 ≤ w3.heap.size := by omega
  clear hC2 hW2 hB2
  refine (hw _).mono ?_
  rintro e w3' ⟨rfl, rfl⟩
  have hT3 := hT.below hW3
  clear hg
  go_wp2
  have sz1 : (⟨#[101]⟩ : ByteArray).size = 1 := rfl
  have sz2 : (⟨#[46]⟩ : ByteArray).size = 1 := rfl
  have sz3 : (⟨#[48, 46]⟩ : ByteArray).size = 2 := rfl
  have hl3 := hC3.lt
  obtain ⟨hz1, hz2⟩ := HZ.out
  have hmi : (m : Int) ≤ (s.size : Int) := by omega
  have HB : Bld w3.drew g ([]) := hB3
  have hs3d : g + 1 ≤ w3.drew.heap.size := hs3
  go_region_with (go_at_call 28; refine (bldS g ([]) _ _ HB (by simp only [size_app, sz2, List.length_nil]; omega) (by omega)).mono ?_; rintro e w5 ⟨rfl, hB5, hb5⟩)
  all_goals (
    go_wp2_with (go_at_call 31; refine (bldStr g _ _ hB5 (by have := hb5.size; have : g + 1 ≤ w3.drew.heap.size := hs3; omega)).mono ?_; rintro e w6 ⟨rfl, hb6⟩)
    go_ret2
    have hW5 : Below w.heap.size w w5 := hW3.drew.trans (hb5.mono (by omega))
    refine ⟨?_, hW5.trans (hb6.mono (by omega))⟩
    rw [hF.out, tx_app, tx_app, HX.out.1, HX.out.2]
    rfl)

set_option maxRecDepth 100000 in
set_option maxHeartbeats 4000000 in
theorem format_plow (s : ByteArray) (x : Int) (w : World) (hT : Tabs w) (hyes : decR ⟨false, tx s, x⟩ = true) (hk : (decide (-20 ≤ x) && decide (x ≤ 20)) = true) (h0 : x < 0) (h1 : (s.size : Int) + x ≤ 0) :
    Calls Tryd.prog 13 #[.agg #[.bool false, .string s, .int .i64 x]] w fun e w' => e = .returned (.tuple #[.string (B ([] ++ fmtB ⟨false, tx s, x⟩)), .int .i64 0]) ∧ Below w.heap.size w w' := by
  have hbd := decR_bounds hyes
  rw [txs_len] at hbd
  obtain ⟨hs1, hs2, hx1, hx2⟩ := hbd
  change -100 ≤ x at hx1
  change x ≤ 100 at hx2
  have hright := fun W => decRight_calls false s x (by omega) W
  rw [hyes] at hright
  have hw := fun W => same_symm (within_calls x 20 (by omega) (by omega) W)
  change ∀ W, Calls _ _ _ _ fun e w' => e = .returned (.bool (decide (-20 ≤ x) && decide (x ≤ 20))) ∧ _ at hw
  rw [hk] at hw
  have hC := Cls.new w 24 [.bool false, .string s, .int .i64 x]
  have hA := below_alloc w (.cells #[.bool false, .string s, .int .i64 x] 24)
  have hl := txs_len s
  obtain ⟨m, hm⟩ : ∃ m : Int, (s.size : Int) + x = m := ⟨_, rfl⟩
  obtain ⟨c, hc⟩ : ∃ c : Nat, -m = (c : Int) := ⟨(-m).toNat, by omega⟩
  have hF := hid (show fmtB ⟨false, tx s, x⟩ = [48, 46] ++ List.replicate c 48 ++ tx s by unfold fmtB; rw [if_pos (show (decide (-20 ≤ x) && decide (x ≤ 20)) = true from hk), if_neg (show ¬ 0 ≤ x by omega), if_neg (show ¬ 0 < ((tx s).length : Int) + x by rw [hl]; omega)]; show [48, 46] ++ List.replicate (-(((tx s).length : Int) + x)).toNat 48 ++ tx s = _; rw [hl, hm, hc]; rfl)
  have hm1 : m ≤ 0 := by omega
  have hm2 : -200 ≤ m := by omega
  have hit := fun W => repeat_calls c (by omega) W
  obtain ⟨q, hq⟩ : ∃ q, B (List.replicate c (48 : UInt8)) = q := ⟨_, rfl⟩
  have hqx : tx q = List.replicate c 48 := by rw [← hq, tx_B]
  have hqs : q.size ≤ 200 := by rw [← txs_len, hqx, List.length_replicate]; omega
  rw [hq] at hit
  have hwr : IntKind.i64.wrap (-m) = (c : Int) := by rw [hc]; exact IntWalk.i64_in _ (by omega)
  clear hc
  have HQ := hid hqx
  clear hqx hq
  clear hyes hk hl
  go_enter Tryd.func13, Tryd.ntmps13
  go_wp2_with fail
  refine (hright _).mono ?_
  rintro e w1 ⟨rfl, hb1⟩
  have hC1 := hC.below hb1
  have hW1 := hA.trans (hb1.mono hA.size)
  have hl1 := hC1.lt
  have hC2 := hC1.alloc (.cells #[.pointer none, .slice none 0 0] 58)
  have hW2 := hW1.alloc hW1.size (.cells #[.pointer none, .slice none 0 0] 58)
  have hB2 := Bld.new w1
  obtain ⟨g, hg⟩ : ∃ g, w1.heap.size = g := ⟨_, rfl⟩
  rw [hg] at hB2 hl1
  have hz2' : (w1.alloc (.cells #[.pointer none, .slice none 0 0] 58)).heap.size = g + 1 := by rw [World.size_alloc, hg]
  have c0 := hC2.cell 0 rfl
  have c1 := hC2.cell 1 rfl
  have c2 := hC2.cell 2 rfl
  have HG := hid hg
  go_wp2_with fail
  generalize w1.alloc (.cells #[.pointer none, .slice none 0 0] 58) = w3 at *
  have hC3 := hC2
  have hW3 := hW2
  have hB3 := hB2
  have hs3 : g + 1 ≤ w3.heap.size := by omega
  clear hC2 hW2 hB2
  refine (hw _).mono ?_
  rintro e w3' ⟨rfl, rfl⟩
  have hT3 := hT.below hW3
  clear hg
  go_wp2
  have sz1 : (⟨#[101]⟩ : ByteArray).size = 1 := rfl
  have sz2 : (⟨#[46]⟩ : ByteArray).size = 1 := rfl
  have sz3 : (⟨#[48, 46]⟩ : ByteArray).size = 2 := rfl
  have hl3 := hC3.lt
  have HB3 := hid hB3
  go_region_with (first
    | (go_at_call 30; refine (hit _).mono ?_; rintro e w4 ⟨rfl, hb4⟩; have HB : Bld w4 g ([]) := Bld.below (W := w3.drew) HB3.out hb4; have hC4 : Cls w4 w.heap.size 24 _ := (hb4.block w.heap.size hl3).trans hC3; have e0 := hC4.cell 0 rfl; have e1 := hC4.cell 1 rfl; have e2 := hC4.cell 2 rfl; have hs4 : g + 1 ≤ w4.heap.size := Nat.le_trans hs3 hb4.size)
    | (go_at_call 28; refine (bldS g ([]) _ _ HB (by simp only [size_app, sz3, List.length_nil]; omega) (by omega)).mono ?_; rintro e w5 ⟨rfl, hB5, hb5⟩))
  all_goals (
    go_wp2_with (go_at_call 31; refine (bldStr g _ _ hB5 (by have := hb5.size; omega)).mono ?_; rintro e w6 ⟨rfl, hb6⟩)
    go_ret2
    have hW4 : Below w.heap.size w w4 := hW3.drew.trans (hb4.mono hW3.drew.size)
    have hW5 : Below w.heap.size w w5 := hW4.trans (hb5.mono (by omega))
    refine ⟨?_, hW5.trans (hb6.mono (by omega))⟩
    rw [hF.out, tx_app, tx_app, HQ.out]
    rfl)
end Go.Proofs.YtbopikeoaokdpaaDoor
