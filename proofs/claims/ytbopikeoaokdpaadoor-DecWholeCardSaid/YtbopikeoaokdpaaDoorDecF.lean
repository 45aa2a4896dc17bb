/- Package dec: Parse: walked. -/
import Derived.Test.YtbopikeoaokdpaaDoorDecE
import Derived.RegionTactic
import Derived.BigRegion
namespace Go.Proofs.YtbopikeoaokdpaaDoor
open Go.RowKit
attribute [local go_sem] Oper.semAt_some

/-- what a written number is read as: in steps. -/
def pr1 (l : List UInt8) : List UInt8 := if hdB 45 l then l.tail else l
def pr2 (l : List UInt8) : List UInt8 := wholeR (pr1 l)
def pr3 (l : List UInt8) : List UInt8 := partR (pr2 l)
def prW (l : List UInt8) : List UInt8 := wholeS (pr1 l)
def prP (l : List UInt8) : List UInt8 := partS (pr2 l)
def prM (l : List UInt8) : D × Int := mk (hdB 45 l) (prW l ++ prP l) (powV (pr3 l) - (prP l).length)
def prB (l : List UInt8) : Bool := decide (prW l ≠ []) && powOk (pr3 l)
def parseD (l : List UInt8) : D := if prB l && (prM l).2 == 0 then (prM l).1 else D0
def parseR (l : List UInt8) : List UInt8 := if prB l && (prM l).2 == 0 then powR (pr3 l) else l
def parseE (l : List UInt8) : Int := if prB l && (prM l).2 == 0 then 0 else 40

theorem mk_err (n : Bool) (l : List UInt8) (x : Int) : (mk n l x).2 = 0 ∨ (mk n l x).2 = 40 := by
  unfold mk
  split
  · split
    · exact .inl rfl
    · split
      · exact .inl rfl
      · exact .inr rfl
  · exact .inr rfl

theorem wholeR_le (l : List UInt8) : (wholeR l).length ≤ l.length := by
  unfold wholeR; split
  · exact tail_len l
  · rw [List.length_drop]; omega
theorem wholeS_le (l : List UInt8) : (wholeS l).length ≤ l.length + 1 := by
  unfold wholeS; split
  · simp
  · have := dgp_le l; omega
theorem partR_le (l : List UInt8) : (partR l).length ≤ l.length := by
  unfold partR; split
  · rw [List.length_drop, List.length_tail]; omega
  · omega
theorem partS_le (l : List UInt8) : (partS l).length ≤ l.length := by
  unfold partS; split
  · have := dgp_le l.tail; rw [List.length_tail] at this; omega
  · simp
theorem powV_bound {l : List UInt8} (h : powOk l = true) : -10000 ≤ powV l ∧ powV l ≤ 10000 := by
  unfold powOk at h
  unfold powV
  cases hc : powC l with
  | false => simp
  | true =>
    rw [hc, Bool.not_true, Bool.false_or, decide_eq_true_eq] at h
    have h4 := nv_bound (dgp_dgs (powL l))
    change nv (powD l) < 10 ^ (powD l).length at h4
    have : (10 : Nat) ^ (powD l).length ≤ 10 ^ 4 := Nat.pow_le_pow_right (by omega) h
    simp only [if_true]
    split <;> omega

set_option maxRecDepth 100000 in
set_option maxHeartbeats 4000000 in
theorem parse_calls (s : ByteArray) (hs : s.size ≤ 1000000) (w : World) (hT : Tabs w) :
    Calls Tryd.prog 9 #[.string s] w fun e w' => e = .returned (.tuple #[(parseD (tx s)).val, .string (B (parseR (tx s))), .int .i64 (parseE (tx s))]) ∧ Below w.heap.size w w' := by
  have hprog : Tryd.prog.follows .mixedOrders = true := by kernel_rfl
  have hC0 := Cls.new w 24 [.bool false, .string ⟨#[]⟩, .int .i64 0]
  have hA0 := below_alloc w (.cells #[.bool false, .string ⟨#[]⟩, .int .i64 0] 24)
  have hC1 := hC0.alloc (.cells #[.string s] 49)
  have hA1 := hA0.alloc hA0.size (.cells #[.string s] 49)
  have hB0 : Boxed ((w.alloc (.cells #[.bool false, .string ⟨#[]⟩, .int .i64 0] 24)).alloc (.cells #[.string s] 49)) (w.heap.size + 1) 49 (.string s) := by
    have := Boxed.new (w.alloc (.cells #[.bool false, .string ⟨#[]⟩, .int .i64 0] 24)) 49 (.string s)
    rwa [World.size_alloc] at this
  obtain ⟨W0, hW0⟩ : ∃ W0, ((w.alloc (.cells #[.bool false, .string ⟨#[]⟩, .int .i64 0] 24)).alloc (.cells #[.string s] 49)) = W0 := ⟨_, rfl⟩
  have hsz0 : W0.heap.size = w.heap.size + 2 := by rw [← hW0]; simp
  rw [hW0] at hC1 hA1 hB0
  have hTW : ∀ W, Below (w.heap.size + 1) W0 W → Tabs W := fun W h => hT.below (hA1.trans (h.mono (by omega)))
  have hCW : ∀ W, Below (w.heap.size + 1) W0 W → Cls W w.heap.size 24 [.bool false, .string ⟨#[]⟩, .int .i64 0] ∧ Below w.heap.size w W := fun W h => ⟨(h.block w.heap.size (by omega)).trans hC1, hA1.trans (h.mono (by omega))⟩
  have HTW := hid hTW
  have HCW := hid hCW
  clear hTW hCW hC0 hA0 hC1 hA1
  -- the five steps
  obtain ⟨neg, hneg⟩ : ∃ neg, hdB 45 (tx s) = neg := ⟨_, rfl⟩
  have h1 := fun W h => isNext_one (w.heap.size + 1) s (by omega) 45 45 rfl W h
  rw [hneg] at h1
  obtain ⟨t1, ht1⟩ : ∃ t1, B (if neg = true then (tx s).tail else tx s) = t1 := ⟨_, rfl⟩
  have htx1 : tx t1 = pr1 (tx s) := by rw [← ht1, tx_B]; unfold pr1; rw [hneg]
  have hts1 : t1.size ≤ s.size := by
    rw [← txs_len, htx1, ← txs_len s]; unfold pr1; split
    · exact tail_len _
    · exact Nat.le_refl _
  rw [ht1] at h1
  have h1' := h1 W0 hB0
  rw [hsz0] at h1'
  clear h1
  have h2 := fun W h => whole_calls (w.heap.size + 1) t1 (by omega) W h
  obtain ⟨ww, hww⟩ : ∃ ww, B (wholeS (tx t1)) = ww := ⟨_, rfl⟩
  have hwx : tx ww = prW (tx s) := by rw [← hww, tx_B, htx1]; rfl
  have hws : ww.size ≤ s.size + 1 := by rw [← hww, size_B]; have := wholeS_le (tx t1); rw [txs_len] at this; omega
  obtain ⟨t2, ht2⟩ : ∃ t2, B (wholeR (tx t1)) = t2 := ⟨_, rfl⟩
  have htx2 : tx t2 = pr2 (tx s) := by rw [← ht2, tx_B, htx1]; rfl
  have hts2 : t2.size ≤ s.size := by rw [← ht2, size_B]; have := wholeR_le (tx t1); rw [txs_len] at this; omega
  rw [hww, ht2] at h2
  have h3 := fun W h => part_calls (w.heap.size + 1) t2 (by omega) W h
  obtain ⟨pp, hpp⟩ : ∃ pp, B (partS (tx t2)) = pp := ⟨_, rfl⟩
  have hpx : tx pp = prP (tx s) := by rw [← hpp, tx_B, htx2]; rfl
  have hps : pp.size ≤ s.size := by rw [← hpp, size_B]; have := partS_le (tx t2); rw [txs_len] at this; omega
  obtain ⟨t3, ht3⟩ : ∃ t3, B (partR (tx t2)) = t3 := ⟨_, rfl⟩
  have htx3 : tx t3 = pr3 (tx s) := by rw [← ht3, tx_B, htx2]; rfl
  have hts3 : t3.size ≤ s.size := by rw [← ht3, size_B]; have := partR_le (tx t2); rw [txs_len] at this; omega
  rw [hpp, ht3] at h3
  have h4 := fun W a b c => power_calls (w.heap.size + 1) t3 (by omega) W a b c
  unfold PowPost at h4
  rw [htx3] at h4
  obtain ⟨ok, hok⟩ : ∃ ok, powOk (pr3 (tx s)) = ok := ⟨_, rfl⟩
  have hvb := @powV_bound (pr3 (tx s))
  rw [hok] at h4 hvb
  obtain ⟨t4, ht4⟩ : ∃ t4, B (powR (pr3 (tx s))) = t4 := ⟨_, rfl⟩
  rw [ht4] at h4
  obtain ⟨pv, hpv⟩ : ∃ pv, powV (pr3 (tx s)) = pv := ⟨_, rfl⟩
  rw [hpv] at h4 hvb
  have hmk := hid (show prM (tx s) = mk neg (tx ww ++ tx pp) (pv - pp.size) by unfold prM; rw [hneg, hwx, hpx, hpv, ← txs_len pp, hpx])
  have hpb := hid (show prB (tx s) = (decide (tx ww ≠ []) && ok) by unfold prB; rw [hwx, hok])
  have HR := hid ht4
  have HV := hid hvb
  clear ht1 ht2 ht3 ht4 hww hpp htx1 htx2 htx3 hwx hpx hpv hok hneg hvb
  have hcase : (ww.toList = [] ∧ ww.toList.isEmpty = true ∧ tx ww = []) ∨ (¬ ww.toList = [] ∧ ww.toList.isEmpty = false ∧ tx ww ≠ []) := by
    by_cases h : ww.size = 0
    · obtain ⟨a, b⟩ := emp_of ww h
      exact .inl ⟨a, by rw [a]; rfl, b⟩
    · obtain ⟨a, b⟩ := ne_of ww h
      exact .inr ⟨a, b, fun e => h (by rw [← txs_len, e]; rfl)⟩
  rcases hcase with ⟨q1, q2, q3⟩ | ⟨q1, q2, q3⟩
  · have HP := hid (show parseD (tx s) = D0 ∧ parseR (tx s) = tx s ∧ parseE (tx s) = 40 by
      have h : prB (tx s) = false := by rw [hpb.out, decide_eq_false (p := tx ww ≠ []) (fun e => e q3), Bool.false_and]
      unfold parseD parseR parseE; rw [h]; exact ⟨rfl, rfl, rfl⟩)
    clear q3
    go_enter Tryd.func9, Tryd.ntmps9
    go_wp2_with fail
    refine h1'.mono ?_
    rintro e w1 ⟨rfl, hB1, hb1⟩
    go_wp2_with fail
    refine (h2 w1 hB1).mono ?_
    rintro e w2 ⟨rfl, hB2, hb2⟩
    have hb2' := hb1.trans hb2
    go_wp2_with fail
    refine (h3 w2 hB2).mono ?_
    rintro e w3 ⟨rfl, hB3, hb3⟩
    have hb3' := hb2'.trans hb3
    go_wp2_with fail
    refine (h4 w3 (HTW.out w3 hb3') (fun W h => HTW.out W (hb3'.trans h)) hB3).mono ?_
    rintro e w4 ⟨⟨v, rfl, hv, hvr1, hvr2⟩, hB4, hb4⟩
    have hb4' := hb3'.trans hb4
    obtain ⟨hC4, hW4⟩ := HCW.out w4 hb4'
    have hT4 := HTW.out w4 hb4'
    have c0 := hC4.cell 0 rfl
    have z0 := hC4.frozen 0
    have c1 := hC4.cell 1 rfl
    have z1 := hC4.frozen 1
    have c2 := hC4.cell 2 rfl
    have z2 := hC4.frozen 2
    go_wp2
    have hF := ((hC4.set 0 (.bool false)).set 1 (.string ⟨#[]⟩)).set 2 (.int .i64 0)
    have f0 := hF.cell 0 rfl
    have f1 := hF.cell 1 rfl
    have f2 := hF.cell 2 rfl
    have hbF := ((hW4.setCell (p := ⟨w.heap.size, 0, none⟩) (Nat.le_refl _) (.bool false)).setCell (p := ⟨w.heap.size, 1, none⟩) (Nat.le_refl _) (.string ⟨#[]⟩)).setCell (p := ⟨w.heap.size, 2, none⟩) (Nat.le_refl _) (.int .i64 0)
    exact bodyPost_ret (v := .tuple #[.agg #[.bool false, .string ⟨#[]⟩, .int .i64 0], .string s, .int .i64 40]) (by simp [results, Tryd.results9, go_sem, f0, f1, f2]) rfl ⟨by rw [HP.out.1, HP.out.2.1, HP.out.2.2, B_tx]; rfl, hbF⟩
  cases ok with
  | false =>
    have HP := hid (show parseD (tx s) = D0 ∧ parseR (tx s) = tx s ∧ parseE (tx s) = 40 by
      have h : prB (tx s) = false := by rw [hpb.out, Bool.and_false]
      unfold parseD parseR parseE; rw [h]; exact ⟨rfl, rfl, rfl⟩)
    clear q3
    go_enter Tryd.func9, Tryd.ntmps9
    go_wp2_with fail
    refine h1'.mono ?_
    rintro e w1 ⟨rfl, hB1, hb1⟩
    go_wp2_with fail
    refine (h2 w1 hB1).mono ?_
    rintro e w2 ⟨rfl, hB2, hb2⟩
    have hb2' := hb1.trans hb2
    go_wp2_with fail
    refine (h3 w2 hB2).mono ?_
    rintro e w3 ⟨rfl, hB3, hb3⟩
    have hb3' := hb2'.trans hb3
    go_wp2_with fail
    refine (h4 w3 (HTW.out w3 hb3') (fun W h => HTW.out W (hb3'.trans h)) hB3).mono ?_
    rintro e w4 ⟨⟨v, rfl, hv, hvr1, hvr2⟩, hB4, hb4⟩
    have hb4' := hb3'.trans hb4
    obtain ⟨hC4, hW4⟩ := HCW.out w4 hb4'
    have hT4 := HTW.out w4 hb4'
    have c0 := hC4.cell 0 rfl
    have z0 := hC4.frozen 0
    have c1 := hC4.cell 1 rfl
    have z1 := hC4.frozen 1
    have c2 := hC4.cell 2 rfl
    have z2 := hC4.frozen 2
    go_wp2
    have hF := ((hC4.set 0 (.bool false)).set 1 (.string ⟨#[]⟩)).set 2 (.int .i64 0)
    have f0 := hF.cell 0 rfl
    have f1 := hF.cell 1 rfl
    have f2 := hF.cell 2 rfl
    have hbF := ((hW4.setCell (p := ⟨w.heap.size, 0, none⟩) (Nat.le_refl _) (.bool false)).setCell (p := ⟨w.heap.size, 1, none⟩) (Nat.le_refl _) (.string ⟨#[]⟩)).setCell (p := ⟨w.heap.size, 2, none⟩) (Nat.le_refl _) (.int .i64 0)
    exact bodyPost_ret (v := .tuple #[.agg #[.bool false, .string ⟨#[]⟩, .int .i64 0], .string s, .int .i64 40]) (by simp [results, Tryd.results9, go_sem, f0, f1, f2]) rfl ⟨by rw [HP.out.1, HP.out.2.1, HP.out.2.2, B_tx]; rfl, hbF⟩
  | true =>
    have hpB := hid (show prB (tx s) = true by rw [hpb.out, decide_eq_true q3]; rfl)
    have hpvb := HV.out rfl
    have hcat : ∀ (u v : ByteArray), tx (u ++ v) = tx u ++ tx v := fun u v => by unfold tx; rw [ByteArray.data_append, Array.toList_append]
    obtain ⟨mm, hmm⟩ : ∃ mm, ww ++ pp = mm := ⟨_, rfl⟩
    have hmx : tx mm = tx ww ++ tx pp := by rw [← hmm, hcat]
    have hms : mm.size = ww.size + pp.size := by rw [← txs_len, hmx, List.length_append, txs_len, txs_len]
    obtain ⟨y, hy⟩ : ∃ y, pv - (pp.size : Int) = y := ⟨_, rfl⟩
    have hmake := fun W => decMake_calls neg mm y ⟨by omega, by omega⟩ (by omega) W
    rw [hmx] at hmake
    have hmk' := hmk.out
    rw [hy] at hmk'
    rw [← hmk'] at hmake
    obtain ⟨dn, dd, dx, hd⟩ : ∃ dn dd dx, (prM (tx s)).1 = ⟨dn, dd, dx⟩ := ⟨_, _, _, rfl⟩
    rw [hd] at hmake
    obtain ⟨ds, hds⟩ : ∃ ds, B dd = ds := ⟨_, rfl⟩
    change ∀ W, Calls _ _ _ _ fun e w' => e = .returned (.tuple #[.agg #[.bool dn, .string (B dd), .int .i64 dx], _]) ∧ _ at hmake
    rw [hds] at hmake
    have herr := mk_err neg (tx ww ++ tx pp) y
    rw [← hmk'] at herr
    have HDS := hid (And.intro hd hds)
    have hsz1 : (ww.size : Int) + (pp.size : Int) ≤ 3000000 := by omega
    have hy1 : -2000000 ≤ y ∧ y ≤ 2000000 := by omega
    obtain ⟨hpv1, hpv2⟩ := hpvb
    have hpp : (pp.size : Int) ≤ 1000000 := by omega
    clear hmk' hmx hms hd hds q3 hcat
    rcases herr with h0 | h0
    · rw [h0] at hmake
      have HP := hid (show parseD (tx s) = (prM (tx s)).1 ∧ parseR (tx s) = powR (pr3 (tx s)) ∧ parseE (tx s) = 0 by
        unfold parseD parseR parseE; rw [hpB.out, h0]; exact ⟨rfl, rfl, rfl⟩)
      clear h0
      go_enter Tryd.func9, Tryd.ntmps9
      go_wp2_with fail
      refine h1'.mono ?_
      rintro e w1 ⟨rfl, hB1, hb1⟩
      go_wp2_with fail
      refine (h2 w1 hB1).mono ?_
      rintro e w2 ⟨rfl, hB2, hb2⟩
      have hb2' := hb1.trans hb2
      go_wp2_with fail
      refine (h3 w2 hB2).mono ?_
      rintro e w3 ⟨rfl, hB3, hb3⟩
      have hb3' := hb2'.trans hb3
      go_wp2_with fail
      refine (h4 w3 (HTW.out w3 hb3') (fun W h => HTW.out W (hb3'.trans h)) hB3).mono ?_
      rintro e w4 ⟨⟨v, rfl, hv, hvr1, hvr2⟩, hB4, hb4⟩
      have hb4' := hb3'.trans hb4
      obtain ⟨hC4, hW4⟩ := HCW.out w4 hb4'
      have hT4 := HTW.out w4 hb4'
      obtain rfl : v = pv := hv trivial
      clear hv
      go_wp2_with fail
      refine (hmake w4).mono ?_
      rintro e w5 ⟨rfl, hb5⟩
      have hC5 := hC4.below hb5
      have hW5 := hW4.trans (hb5.mono hW4.size)
      have hB5 : Boxed w5 (w.heap.size + 1) 49 (.string t4) := (hb5.block _ hB4.lt).trans hB4
      have hN := Cls.new w5 24 [.bool dn, .string ds, .int .i64 dx]
      have hC6 := hC5.alloc (.cells #[.bool dn, .string ds, .int .i64 dx] 24)
      have hW6 := hW5.alloc hW5.size (.cells #[.bool dn, .string ds, .int .i64 dx] 24)
      have hB6 := hB5.alloc (.cells #[.bool dn, .string ds, .int .i64 dx] 24)
      go_wp2_with fail
      clear hb5 hC5 hW5 hB5
      have hNc : Cls (w5.alloc (.cells #[.bool dn, .string ds, .int .i64 dx] 24)) w5.heap.size 24 [.bool dn, .string ds, .int .i64 dx] := hN
      clear hN
      obtain ⟨G5, hG5⟩ : ∃ G5, w5.heap.size = G5 := ⟨_, rfl⟩
      generalize w5.alloc (.cells #[.bool dn, .string ds, .int .i64 dx] 24) = W6 at *
      rw [hG5] at hNc ⊢
      clear hG5
      have n0 := hNc.cell 0 rfl
      have n1 := hNc.cell 1 rfl
      have n2 := hNc.cell 2 rfl
      have r0 := hB6.cell
      have c0 := hC6.cell 0 rfl
      have z0 := hC6.frozen 0
      have c1 := hC6.cell 1 rfl
      have z1 := hC6.frozen 1
      have c2 := hC6.cell 2 rfl
      have z2 := hC6.frozen 2
      go_region
      all_goals go_wp2
      have hF := ((hC6.set 0 (.bool dn)).set 1 (.string ds)).set 2 (.int .i64 dx)
      have f0 := hF.cell 0 rfl
      have f1 := hF.cell 1 rfl
      have f2 := hF.cell 2 rfl
      have hbF := ((hW6.setCell (p := ⟨w.heap.size, 0, none⟩) (Nat.le_refl _) (.bool dn)).setCell (p := ⟨w.heap.size, 1, none⟩) (Nat.le_refl _) (.string ds)).setCell (p := ⟨w.heap.size, 2, none⟩) (Nat.le_refl _) (.int .i64 dx)
      exact bodyPost_ret (v := .tuple #[.agg #[.bool dn, .string ds, .int .i64 dx], .string t4, .int .i64 0]) (by simp [results, Tryd.results9, go_sem, f0, f1, f2]) rfl ⟨by rw [HP.out.1, HP.out.2.1, HP.out.2.2, HR.out, HDS.out.1, ← HDS.out.2]; rfl, hbF.drew⟩
    · rw [h0] at hmake
      have HP := hid (show parseD (tx s) = D0 ∧ parseR (tx s) = tx s ∧ parseE (tx s) = 40 by
        unfold parseD parseR parseE; rw [hpB.out, h0]; exact ⟨rfl, rfl, rfl⟩)
      clear h0
      go_enter Tryd.func9, Tryd.ntmps9
      go_wp2_with fail
      refine h1'.mono ?_
      rintro e w1 ⟨rfl, hB1, hb1⟩
      go_wp2_with fail
      refine (h2 w1 hB1).mono ?_
      rintro e w2 ⟨rfl, hB2, hb2⟩
      have hb2' := hb1.trans hb2
      go_wp2_with fail
      refine (h3 w2 hB2).mono ?_
      rintro e w3 ⟨rfl, hB3, hb3⟩
      have hb3' := hb2'.trans hb3
      go_wp2_with fail
      refine (h4 w3 (HTW.out w3 hb3') (fun W h => HTW.out W (hb3'.trans h)) hB3).mono ?_
      rintro e w4 ⟨⟨v, rfl, hv, hvr1, hvr2⟩, hB4, hb4⟩
      have hb4' := hb3'.trans hb4
      obtain ⟨hC4, hW4⟩ := HCW.out w4 hb4'
      have hT4 := HTW.out w4 hb4'
      obtain rfl : v = pv := hv trivial
      clear hv
      go_wp2_with fail
      refine (hmake w4).mono ?_
      rintro e w5 ⟨rfl, hb5⟩
      have hC5 := hC4.below hb5
      have hW5 := hW4.trans (hb5.mono hW4.size)
      have hC6 := hC5.alloc (.cells #[.bool dn, .string ds, .int .i64 dx] 24)
      have hW6 := hW5.alloc hW5.size (.cells #[.bool dn, .string ds, .int .i64 dx] 24)
      have c0 := hC6.cell 0 rfl
      have z0 := hC6.frozen 0
      have c1 := hC6.cell 1 rfl
      have z1 := hC6.frozen 1
      have c2 := hC6.cell 2 rfl
      have z2 := hC6.frozen 2
      clear hC5 hW5
      go_wp2
      have hF := ((hC6.set 0 (.bool false)).set 1 (.string ⟨#[]⟩)).set 2 (.int .i64 0)
      have f0 := hF.cell 0 rfl
      have f1 := hF.cell 1 rfl
      have f2 := hF.cell 2 rfl
      have hbF := ((hW6.setCell (p := ⟨w.heap.size, 0, none⟩) (Nat.le_refl _) (.bool false)).setCell (p := ⟨w.heap.size, 1, none⟩) (Nat.le_refl _) (.string ⟨#[]⟩)).setCell (p := ⟨w.heap.size, 2, none⟩) (Nat.le_refl _) (.int .i64 0)
      exact bodyPost_ret (v := .tuple #[.agg #[.bool false, .string ⟨#[]⟩, .int .i64 0], .string s, .int .i64 40]) (by simp [results, Tryd.results9, go_sem, f0, f1, f2]) rfl ⟨by rw [HP.out.1, HP.out.2.1, HP.out.2.2, B_tx]; rfl, hbF⟩
end Go.Proofs.YtbopikeoaokdpaaDoor
