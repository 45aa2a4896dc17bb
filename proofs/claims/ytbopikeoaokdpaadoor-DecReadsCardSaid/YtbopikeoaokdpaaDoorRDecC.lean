/- The document's own decimals (targumref04): Parse: walked. -/
import Derived.Test.YtbopikeoaokdpaaDoorRDecB
import Derived.Deep.DeepCutAuto
namespace Go.Proofs.YtbopikeoaokdpaaDoor
open Go.RowKit
attribute [local go_sem] Oper.semAt_some

theorem hd_none {t : ByteArray} (h : t.size = 0) (c : UInt8) : hdB c (tx t) = false := by
  rw [List.eq_nil_of_length_eq_zero (show (tx t).length = 0 by rw [txs_len]; exact h)]; rfl
theorem hd_at {t : ByteArray} (h : 0 < t.size) (c : UInt8) (z : Int) (hz : z = (c.toNat : Nat)) : ((((t[0]).toNat : Nat) : Int) == z) = hdB c (tx t) := by
  rw [tx_head h, hdB_cons, hz, Bool.eq_iff_iff, beq_iff_eq, beq_iff_eq]
  exact ⟨fun e => UInt8.toNat_inj.1 (by omega), fun e => by rw [e]⟩
theorem tail_at {t : ByteArray} (h : 1 < t.size) : (tx t).tail = t[1] :: (tx t).tail.tail := by
  have h1 : 1 < (tx t).length := by rw [txs_len]; exact h
  cases e : tx t with
  | nil => rw [e] at h1; simp at h1
  | cons a r =>
    cases r with
    | nil => rw [e] at h1; simp at h1
    | cons b r =>
      have : (tx t)[1] = t[1] := rfl
      simp only [e, List.getElem_cons_succ, List.getElem_cons_zero] at this
      rw [List.tail_cons, List.tail_cons, this]
      rfl
theorem hd2_at {t : ByteArray} (h : 1 < t.size) (c : UInt8) (z : Int) (hz : z = (c.toNat : Nat)) : ((((t[1]).toNat : Nat) : Int) == z) = hdB c (tx t).tail := by
  rw [tail_at h, hdB_cons, hz, Bool.eq_iff_iff, beq_iff_eq, beq_iff_eq]
  exact ⟨fun e => UInt8.toNat_inj.1 (by omega), fun e => by rw [e]⟩
theorem tail_none {t : ByteArray} (h : ¬ 1 < t.size) : (tx t).tail = [] := by
  have h1 : ¬ 1 < (tx t).length := by rw [txs_len]; exact h
  exact List.eq_nil_of_length_eq_zero (by rw [List.length_tail]; omega)
theorem tx_drop (t : ByteArray) (k : Nat) : tx (t.extract k t.size) = (tx t).drop k := by
  unfold tx; rw [Lib.extract_data, List.take_of_length_le (by rw [List.length_drop, len_str]; omega)]
theorem eq_of_tx {s t : ByteArray} (h : tx s = tx t) : s = t := by rw [← B_tx s, ← B_tx t, h]

theorem dgp_nil_of {l : List UInt8} (h : hdB 48 l = true) : dgp l ≠ [] := by
  cases l with
  | nil => cases h
  | cons c r =>
    rw [hdB_cons, beq_iff_eq] at h
    subst h
    unfold dgp
    rw [List.takeWhile_cons_of_pos (by rfl)]
    simp
theorem whole_len (l : List UInt8) : wholeR l = l.drop (wholeS l).length ∧ wholeS l = l.take (wholeS l).length := by
  unfold wholeR wholeS
  cases h : hdB 48 l with
  | true =>
    cases l with
    | nil => cases h
    | cons c r =>
      rw [hdB_cons, beq_iff_eq] at h
      subst h
      exact ⟨rfl, rfl⟩
  | false => exact ⟨rfl, (dgp_take l).symm⟩
theorem whole_dg (l : List UInt8) : wholeS l = [] ↔ dgp l = [] := by
  unfold wholeS
  cases h : hdB 48 l with
  | true =>
    have := dgp_nil_of h
    simp [this]
  | false => simp
set_option maxRecDepth 100000 in
set_option maxHeartbeats 4000000 in
theorem rparse_none (s : ByteArray) (hs : s.size ≤ 1000000) (w : World) (h0 : dgp (pr1 (tx s)) = []) :
    Calls Tryd.prog 11 #[.string s] w fun e w' => e = .returned (.tuple #[(parseD (tx s)).val, .string (B (parseR (tx s))), .int .i64 (parseE (tx s))]) ∧ Below w.heap.size w w' := by
  have hC := Cls.new w 24 [.bool false, .string ⟨#[]⟩, .int .i64 0]
  have hA := below_alloc w (.cells #[.bool false, .string ⟨#[]⟩, .int .i64 0] 24)
  have c0 := hC.cell 0 rfl
  have c1 := hC.cell 1 rfl
  have c2 := hC.cell 2 rfl
  have z0 := hC.frozen 0
  have z1 := hC.frozen 1
  have z2 := hC.frozen 2
  obtain ⟨neg, hneg⟩ : ∃ neg, hdB 45 (tx s) = neg := ⟨_, rfl⟩
  obtain ⟨t1, ht1⟩ : ∃ t1, B (pr1 (tx s)) = t1 := ⟨_, rfl⟩
  have htx1 : tx t1 = pr1 (tx s) := by rw [← ht1, tx_B]
  have hts1 : t1.size ≤ s.size := by
    rw [← txs_len, htx1, ← txs_len s]; unfold pr1; split
    · exact tail_len _
    · exact Nat.le_refl _
  have hT1 : (neg = true → s.extract 1 s.size = t1 ∧ 0 < s.size) ∧ (neg = false → s = t1) := by
    constructor
    · intro e
      refine ⟨eq_of_tx (by rw [tx_tail, htx1]; unfold pr1; rw [hneg, e]; rfl), ?_⟩
      rcases Nat.eq_zero_or_pos s.size with h | h
      · rw [hd_none h] at hneg; rw [← hneg] at e; cases e
      · exact h
    · intro e
      exact eq_of_tx (by rw [htx1]; unfold pr1; rw [hneg, e]; rfl)
  have hNEG := hid hneg
  have HT1 := hid hT1
  have hdig1 := fun W => rdigits_calls t1 (by omega) W
  have HP := hid (show parseD (tx s) = D0 ∧ parseR (tx s) = tx s ∧ parseE (tx s) = 40 by
    have h : prB (tx s) = false := by unfold prB prW; rw [(whole_dg _).2 h0]; rfl
    unfold parseD parseR parseE; rw [h]; exact ⟨rfl, rfl, rfl⟩)
  rw [htx1, h0] at hdig1
  change ∀ W, Calls _ _ _ _ fun e w' => e = .returned (.int .i64 0) ∧ _ at hdig1
  clear htx1 ht1 hT1 h0
  go_enter Tryd.func11, Tryd.ntmps11
  go_upto_region 2 with fail
  go_cut [6] (fun v wx => v = .bool neg ∧ wx = w.alloc (.cells #[.bool false, .string ⟨#[]⟩, .int .i64 0] 24))
  case first =>
    by_cases hz : 0 < s.size
    · have hb := hd_at hz 45 45 rfl
      rw [hneg] at hb
      clear hneg
      go_wp2_with fail
      go_meet
      exact ⟨rfl, rfl⟩
    · have hz0 : s.size = 0 := by omega
      have hzi : ¬ (0 : Int) < (s.size : Int) := by omega
      have HN := hid (show neg = false by rw [← hneg]; exact hd_none hz0 45)
      clear hneg hz0
      go_wp2_with fail
      go_meet
      exact ⟨by rw [HN.out], rfl⟩
  case rest =>
    obtain ⟨rfl, rfl⟩ := hcut
    clear hneg
    go_upto_if 24 with fail
    go_cut [5] (fun v wx => v = .string t1 ∧ wx = w.alloc (.cells #[.bool false, .string ⟨#[]⟩, .int .i64 0] 24))
    case first =>
      cases neg
      · have HX := hid (HT1.out.2 rfl)
        go_wp2_with fail
        go_meet
        exact ⟨congrArg Value.string HX.out, rfl⟩
      · obtain ⟨hx1, hx2⟩ := HT1.out.1 rfl
        have hx3 : (1 : Int) ≤ (s.size : Int) := by omega
        go_wp2_with fail
        go_meet
        exact ⟨rfl, rfl⟩
    case rest =>
      obtain ⟨rfl, rfl⟩ := hcut
      go_wp2_with (go_at_call 24; refine (hdig1 _).mono ?_; rintro e w1 ⟨rfl, rfl⟩)
      have hF := Cls.new w 24 [.bool false, .string ⟨#[]⟩, .int .i64 0]
      have f0 := hF.cell 0 rfl
      have f1 := hF.cell 1 rfl
      have f2 := hF.cell 2 rfl
      exact bodyPost_ret (v := .tuple #[.agg #[.bool false, .string ⟨#[]⟩, .int .i64 0], .string s, .int .i64 40]) (by simp [results, Tryd.results11, go_sem, f0, f1, f2]) rfl ⟨by rw [HP.out.1, HP.out.2.1, HP.out.2.2, B_tx]; rfl, below_alloc w _⟩

set_option maxRecDepth 100000 in
set_option maxHeartbeats 4000000 in
theorem rparse_long (s : ByteArray) (hs : s.size ≤ 1000000) (w : World) (h0 : dgp (pr1 (tx s)) ≠ []) (hbad : powOk (pr3 (tx s)) = false) :
    Calls Tryd.prog 11 #[.string s] w fun e w' => e = .returned (.tuple #[(parseD (tx s)).val, .string (B (parseR (tx s))), .int .i64 (parseE (tx s))]) ∧ Below w.heap.size w w' := by
  have hC := Cls.new w 24 [.bool false, .string ⟨#[]⟩, .int .i64 0]
  have hA := below_alloc w (.cells #[.bool false, .string ⟨#[]⟩, .int .i64 0] 24)
  have c0 := hC.cell 0 rfl
  have c1 := hC.cell 1 rfl
  have c2 := hC.cell 2 rfl
  have z0 := hC.frozen 0
  have z1 := hC.frozen 1
  have z2 := hC.frozen 2
  obtain ⟨neg, hneg⟩ : ∃ neg, hdB 45 (tx s) = neg := ⟨_, rfl⟩
  obtain ⟨t1, ht1⟩ : ∃ t1, B (pr1 (tx s)) = t1 := ⟨_, rfl⟩
  have htx1 : tx t1 = pr1 (tx s) := by rw [← ht1, tx_B]
  have hts1 : t1.size ≤ s.size := by
    rw [← txs_len, htx1, ← txs_len s]; unfold pr1; split
    · exact tail_len _
    · exact Nat.le_refl _
  have hT1 : (neg = true → s.extract 1 s.size = t1 ∧ 0 < s.size) ∧ (neg = false → s = t1) := by
    constructor
    · intro e
      refine ⟨eq_of_tx (by rw [tx_tail, htx1]; unfold pr1; rw [hneg, e]; rfl), ?_⟩
      rcases Nat.eq_zero_or_pos s.size with h | h
      · rw [hd_none h] at hneg; rw [← hneg] at e; cases e
      · exact h
    · intro e
      exact eq_of_tx (by rw [htx1]; unfold pr1; rw [hneg, e]; rfl)
  have hNEG := hid hneg
  have HT1 := hid hT1
  have hdig1 := fun W => rdigits_calls t1 (by omega) W
  have hm0 : dgp (tx t1) ≠ [] := by rw [htx1]; exact h0
  obtain ⟨m, hm⟩ : ∃ m, (dgp (tx t1)).length = m := ⟨_, rfl⟩
  have hmp : 0 < m := by rw [← hm]; exact List.length_pos_iff.2 hm0
  have hml : m ≤ t1.size := by rw [← hm, ← txs_len]; exact dgp_le _
  rw [hm] at hdig1
  have hmb : ((m : Int) == 0) = false := by rw [beq_eq_false_iff_ne]; omega
  have h1p : 0 < t1.size := by omega
  obtain ⟨z48, hz48⟩ : ∃ b, hdB 48 (tx t1) = b := ⟨_, rfl⟩
  have hb48 := hd_at h1p 48 48 rfl
  rw [hz48] at hb48
  obtain ⟨p, hp⟩ : ∃ p, (wholeS (tx t1)).length = p := ⟨_, rfl⟩
  have hP : (z48 = true → 1 = p) ∧ (z48 = false → m = p) := by
    rw [← hp, ← hm]
    unfold wholeS
    rw [hz48]
    constructor <;> (intro e; rw [e]; rfl)
  have hpl : p ≤ t1.size := by cases z48 <;> simp at hP <;> omega
  have hpi : (p : Int) ≤ (t1.size : Int) := by omega
  obtain ⟨ww, hww⟩ : ∃ ww, t1.extract 0 p = ww := ⟨_, rfl⟩
  obtain ⟨t2, ht2⟩ : ∃ t2, t1.extract p t1.size = t2 := ⟨_, rfl⟩
  have hwx : tx ww = prW (tx s) := by
    rw [← hww]
    show (t1.extract 0 p).data.toList = _
    rw [extract_take, show t1.data.toList = tx t1 from rfl, ← hp, ← (whole_len (tx t1)).2, htx1]; rfl
  have htx2 : tx t2 = pr2 (tx s) := by rw [← ht2, tx_drop, ← hp, ← (whole_len (tx t1)).1, htx1]; rfl
  have hws : ww.size ≤ s.size := by rw [← txs_len, hwx]; have h := (whole_len (tx t1)).2; rw [htx1] at h; change prW (tx s) = _ at h; rw [h, List.length_take, ← htx1, txs_len]; omega
  have hts2 : t2.size ≤ s.size := by rw [← txs_len, htx2]; have h := wholeR_le (tx t1); rw [htx1] at h; change (pr2 (tx s)).length ≤ _ at h; rw [← htx1, txs_len] at h; omega
  have HPZ := hid hP
  -- the part behind a point
  obtain ⟨u2, hu2⟩ : ∃ u2, t2.extract 1 t2.size = u2 := ⟨_, rfl⟩
  have hux2 : tx u2 = (tx t2).tail := by rw [← hu2, tx_tail]
  have hus2 : u2.size ≤ t2.size := by rw [← txs_len, hux2, ← txs_len t2]; exact tail_len _
  have hdig2 := fun W => rdigits_calls u2 (by omega) W
  obtain ⟨m2, hm2⟩ : ∃ m2, (dgp (tx u2)).length = m2 := ⟨_, rfl⟩
  have hm2l : m2 ≤ u2.size := by rw [← hm2, ← txs_len]; exact dgp_le _
  rw [hm2] at hdig2
  obtain ⟨pb, hpb⟩ : ∃ pb, partB (tx t2) = pb := ⟨_, rfl⟩
  have hPB : pb = (hdB 46 (tx t2) && decide (0 < m2)) := by
    rw [← hpb, ← hm2, hux2]
    unfold partB
    congr 1
    rw [decide_eq_decide]
    exact List.length_pos_iff.symm
  have HPB := hid hPB
  obtain ⟨m3, hm3⟩ : ∃ m3 : Nat, 1 + m2 = m3 := ⟨_, rfl⟩
  obtain ⟨pp, hpp⟩ : ∃ pp, B (partS (tx t2)) = pp := ⟨_, rfl⟩
  have hpx : tx pp = prP (tx s) := by rw [← hpp, tx_B, htx2]; rfl
  obtain ⟨t3, ht3⟩ : ∃ t3, B (partR (tx t2)) = t3 := ⟨_, rfl⟩
  have htx3 : tx t3 = pr3 (tx s) := by rw [← ht3, tx_B, htx2]; rfl
  have hts3 : t3.size ≤ s.size := by rw [← ht3, size_B]; have := partR_le (tx t2); rw [txs_len] at this; omega
  have hps : pp.size ≤ s.size := by rw [← hpp, size_B]; have := partS_le (tx t2); rw [txs_len] at this; omega
  have h2p : pb = true → 0 < t2.size := fun e => by
    rcases Nat.eq_zero_or_pos t2.size with h | h
    · rw [hPB, hd_none h] at e; cases e
    · exact h
  have hus2' : 0 < t2.size → u2.size = t2.size - 1 := fun h => by rw [← txs_len, hux2, List.length_tail, txs_len]
  have hPT : (pb = true → t2.extract 1 m3 = pp ∧ t2.extract m3 t2.size = t3 ∧ (m2 : Int) = (pp.size : Int)) ∧ (pb = false → pp.size = 0 ∧ ww ++ pp = ww ∧ t2 = t3) := by
    constructor
    · intro e
      have e1 : partS (tx t2) = dgp (tx u2) := by unfold partS; rw [hpb, e, hux2]; rfl
      have e2 : partR (tx t2) = (tx t2).drop m3 := by unfold partR; rw [hpb, e, ← hux2, hm2, ← hm3]; show (tx u2).drop m2 = _; rw [hux2, List.drop_tail, Nat.add_comm]
      refine ⟨eq_of_tx ?_, eq_of_tx (by rw [tx_drop, ← ht3, tx_B, e2]), by rw [← hpp, size_B, e1, hm2]⟩
      rw [← hpp, tx_B, e1]
      show (t2.extract 1 m3).data.toList = _
      rw [Lib.extract_data, ← hm3, show 1 + m2 - 1 = m2 by omega, show t2.data.toList.drop 1 = (tx t2).tail from List.drop_one, ← hux2, ← hm2]
      exact dgp_take _
    · intro e
      have e1 : partS (tx t2) = [] := by unfold partS; rw [hpb, e]; rfl
      have e2 : partR (tx t2) = tx t2 := by unfold partR; rw [hpb, e]; rfl
      refine ⟨by rw [← hpp, e1]; rfl, eq_of_tx (by rw [tx_app, ← hpp, e1, tx_B, List.append_nil]), eq_of_tx (by rw [← ht3, tx_B, e2])⟩
  have HPT := hid (And.intro hPT (And.intro h2p hus2'))
  obtain ⟨al, hal⟩ : ∃ al, ww ++ pp = al := ⟨_, rfl⟩
  have halx : tx al = prW (tx s) ++ prP (tx s) := by rw [← hal, tx_app, hwx, hpx]
  have hals : al.size ≤ 2000000 := by rw [← hal, size_app]; omega
  have hE0 : -1000000 ≤ -(pp.size : Int) := by omega
  -- the power
  obtain ⟨eb, heb⟩ : ∃ eb, expB (tx t3) = eb := ⟨_, rfl⟩
  have HEB := hid (show (hdB 101 (tx t3) || hdB 69 (tx t3)) = eb from heb)
  obtain ⟨sg, hsg⟩ : ∃ sg, (hdB 43 (tx t3).tail || hdB 45 (tx t3).tail) = sg := ⟨_, rfl⟩
  have HSG := hid hsg
  obtain ⟨at1, hat1⟩ : ∃ at1 : Nat, (if sg then 2 else 1) = at1 := ⟨_, rfl⟩
  have hat : (sg = true → 2 = at1) ∧ (sg = false → 1 = at1) := by
    constructor <;> (intro e; rw [e] at hat1; exact hat1)
  have hPL : powL (tx t3) = (tx t3).drop at1 := by
    unfold powL
    rw [Bool.or_comm, hsg]
    cases sg
    · rw [← hat.2 rfl, List.drop_one]; rfl
    · rw [← hat.1 rfl]; show (tx t3).tail.tail = _; rw [← List.drop_one, ← List.drop_one, List.drop_drop]
  have hal1 : eb = true → at1 ≤ t3.size := by
    intro e
    cases hq : sg with
    | false =>
      rw [← hat.2 hq]
      rcases Nat.eq_zero_or_pos t3.size with h | h
      · rw [e] at heb; unfold expB at heb; rw [hd_none h, hd_none h] at heb; cases heb
      · omega
    | true =>
      rw [← hat.1 hq]
      by_cases h : 1 < t3.size
      · omega
      · rw [hq, tail_none h] at hsg; cases hsg
  obtain ⟨u3, hu3⟩ : ∃ u3, t3.extract at1 t3.size = u3 := ⟨_, rfl⟩
  have hux3 : tx u3 = powL (tx t3) := by rw [← hu3, tx_drop, hPL]
  have hus3 : u3.size ≤ t3.size := by rw [← txs_len, hux3, hPL, List.length_drop, txs_len]; omega
  have hus3' : at1 ≤ t3.size → u3.size = t3.size - at1 := fun h => by rw [← txs_len, hux3, hPL, List.length_drop, txs_len]
  have hdig3 := fun W => rdigits_calls u3 (by omega) W
  obtain ⟨m4, hm4⟩ : ∃ m4, (dgp (tx u3)).length = m4 := ⟨_, rfl⟩
  have hm4l : m4 ≤ u3.size := by rw [← hm4, ← txs_len]; exact dgp_le _
  rw [hm4] at hdig3
  have hPD : (powD (tx t3)).length = m4 := by unfold powD; rw [← hux3]; exact hm4
  have HAT := hid (And.intro hat (And.intro hal1 hus3'))
  have hat2 : at1 ≤ 2 := by cases sg <;> simp at hat <;> omega
  have hprb : prB (tx s) = powOk (tx t3) := by
    unfold prB
    rw [decide_eq_true (p := prW (tx s) ≠ []) (fun e => h0 ((whole_dg _).1 e)), htx3]; rfl
  have hpwx : powOk (tx t3) = (!(eb && decide (0 < m4)) || decide (m4 ≤ 4)) := by
    unfold powOk powC
    rw [heb, hPD, ← hPD, decide_eq_decide.2 (show powD (tx t3) ≠ [] ↔ 0 < (powD (tx t3)).length from List.length_pos_iff.symm)]
  have HP := hid (show parseD (tx s) = D0 ∧ parseR (tx s) = tx s ∧ parseE (tx s) = 40 by
    have h : prB (tx s) = false := by rw [hprb, htx3]; exact hbad
    unfold parseD parseR parseE; rw [h]; exact ⟨rfl, rfl, rfl⟩)
  have hlong : eb = true ∧ 4 < m4 := by
    rw [← htx3, hpwx, Bool.or_eq_false_iff, Bool.not_eq_false', Bool.and_eq_true, decide_eq_true_eq, decide_eq_false_iff_not] at hbad
    exact ⟨hbad.1.1, by omega⟩
  obtain ⟨hl1, hl2⟩ := hlong
  subst hl1
  have hwp := hal
  have HALL := hid (And.intro hp (And.intro hpb (And.intro heb (And.intro hsg (And.intro hprb (And.intro hpwx (And.intro hPD (And.intro hux3 (And.intro htx3 halx)))))))))
  clear hm0 hm hmp hz48 hp hP htx1 ht1 hT1 hwx htx2 hux2 hm2 hpb hPB hpp hpx ht3 htx3 h2p hus2' hPT hal halx heb hsg hat1 hat hPL hal1 hux3 hus3' hm4 hPD hprb hpwx h0 hbad
  go_enter Tryd.func11, Tryd.ntmps11
  go_upto_region 2 with fail
  go_cut [6] (fun v wx => v = .bool neg ∧ wx = w.alloc (.cells #[.bool false, .string ⟨#[]⟩, .int .i64 0] 24))
  case first =>
    by_cases hz : 0 < s.size
    · have hb := hd_at hz 45 45 rfl
      rw [hneg] at hb
      clear hneg
      go_wp2_with fail
      go_meet
      exact ⟨rfl, rfl⟩
    · have hz0 : s.size = 0 := by omega
      have hzi : ¬ (0 : Int) < (s.size : Int) := by omega
      have HN := hid (show neg = false by rw [← hneg]; exact hd_none hz0 45)
      clear hneg hz0
      go_wp2_with fail
      go_meet
      exact ⟨by rw [HN.out], rfl⟩
  case rest =>
    obtain ⟨rfl, rfl⟩ := hcut
    clear hneg
    go_upto_if 24 with fail
    go_cut [5] (fun v wx => v = .string t1 ∧ wx = w.alloc (.cells #[.bool false, .string ⟨#[]⟩, .int .i64 0] 24))
    case first =>
      cases neg
      · have HX := hid (HT1.out.2 rfl)
        go_wp2_with fail
        go_meet
        exact ⟨congrArg Value.string HX.out, rfl⟩
      · obtain ⟨hx1, hx2⟩ := HT1.out.1 rfl
        have hx3 : (1 : Int) ≤ (s.size : Int) := by omega
        go_wp2_with fail
        go_meet
        exact ⟨rfl, rfl⟩
    case rest =>
      obtain ⟨rfl, rfl⟩ := hcut
      go_upto_if 35 with (go_at_call 24; refine (hdig1 _).mono ?_; rintro e w1 ⟨rfl, rfl⟩)
      go_cut [7] (fun v wx => v = .int .i64 p ∧ wx = w.alloc (.cells #[.bool false, .string ⟨#[]⟩, .int .i64 0] 24))
      case first =>
        cases z48
        · have HX := hid (HPZ.out.2 rfl)
          go_wp2_with fail
          go_meet
          exact ⟨by rw [HX.out], rfl⟩
        · have HX := hid (HPZ.out.1 rfl)
          go_wp2_with fail
          go_meet
          exact ⟨by rw [← HX.out] <;> rfl, rfl⟩
      case rest =>
        obtain ⟨rfl, rfl⟩ := hcut
        go_upto_region 13 with fail
        go_cut [55] (fun v wx => v = .bool pb ∧ wx = w.alloc (.cells #[.bool false, .string ⟨#[]⟩, .int .i64 0] 24))
        case first =>
          by_cases hz : 1 < t2.size
          · have hb := hd_at (show 0 < t2.size by omega) 46 46 rfl
            obtain ⟨b46, hb46⟩ : ∃ b, hdB 46 (tx t2) = b := ⟨_, rfl⟩
            rw [hb46] at hb
            have hpb2 := HPB.out
            rw [hb46] at hpb2
            have hzi : (1 : Int) < (t2.size : Int) := by omega
            clear hb46
            cases b46
            · have HX := hid hpb2
              clear hpb2
              go_wp2_with fail
              go_meet
              exact ⟨by rw [HX.out] <;> rfl, rfl⟩
            · obtain ⟨dd, hdd⟩ : ∃ dd, decide (0 < m2) = dd := ⟨_, rfl⟩
              rw [hdd] at hpb2
              have hdi : decide ((0 : Int) < (m2 : Int)) = dd := by rw [← hdd, decide_eq_decide]; omega
              have HX := hid hpb2
              clear hpb2 hdi
              go_wp2_with (go_at_call 24; refine (hdig2 _).mono ?_; rintro e w1 ⟨rfl, rfl⟩)
              go_meet
              exact ⟨by rw [HX.out] <;> rfl, rfl⟩
          · have hzi : ¬ (1 : Int) < (t2.size : Int) := by omega
            have HX := hid (show pb = false by
              rw [HPB.out]
              rcases Nat.eq_zero_or_pos t2.size with h | h
              · rw [hd_none h]; rfl
              · have := HPT.out.2.2 h
                rw [show decide (0 < m2) = false from decide_eq_false (by omega), Bool.and_false])
            clear hz
            go_wp2_with fail
            go_meet
            exact ⟨by rw [HX.out], rfl⟩
        case rest =>
          obtain ⟨rfl, rfl⟩ := hcut
          go_upto_if 55 with fail
          go_cut [5, 7, 8, 9] (fun v5 v7 v8 v9 wx => v5 = .string t3 ∧ (∃ z, v7 = .int .i64 z) ∧ v8 = .string al ∧ v9 = .int .i64 (-(pp.size : Int)) ∧ wx = w.alloc (.cells #[.bool false, .string ⟨#[]⟩, .int .i64 0] 24))
          case first =>
            cases pb
            · obtain ⟨hx1, hx2, hx3⟩ := HPT.out.1.2 rfl
              have HX := hid (And.intro hx1 (And.intro (hx2.symm.trans hwp) hx3))
              clear hx1 hx2 hx3
              go_wp2_with fail
              go_meet
              exact ⟨by rw [HX.out.2.2], ⟨_, rfl⟩, by rw [HX.out.2.1], by rw [HX.out.1]; rfl, rfl⟩
            · obtain ⟨hx1, hx2, hx3⟩ := HPT.out.1.1 rfl
              have hx4 := HPT.out.2.1 rfl
              have hx5 := HPT.out.2.2 hx4
              have hx6 : (1 : Int) ≤ (t2.size : Int) := by omega
              have hx7 : m3 ≤ t2.size := by omega
              have hx8 : (1 : Int) + (m2 : Int) = (m3 : Int) := by omega
              have hx9 : (m3 : Int) ≤ (t2.size : Int) := by omega
              have hx10 : (1 : Int) ≤ (m3 : Int) := by omega
              have HX := hid hx3
              clear hx3 hx5 hm3
              have HZ := hid hwp
              go_wp2_with (go_at_call 24; refine (hdig2 _).mono ?_; rintro e w1 ⟨rfl, rfl⟩)
              go_meet
              exact ⟨rfl, ⟨_, rfl⟩, by first | rfl | rw [HZ.out], by rw [HX.out], rfl⟩
          case rest =>
            obtain ⟨rfl, ⟨z7, rfl⟩, rfl, rfl, rfl⟩ := hcut
            go_upto_region 18 with fail
            go_cut [83] (fun v wx => v = .bool true ∧ wx = w.alloc (.cells #[.bool false, .string ⟨#[]⟩, .int .i64 0] 24))
            case first =>
              by_cases hz : 0 < t3.size
              · have hb1 := hd_at hz 101 101 rfl
                have hb2 := hd_at hz 69 69 rfl
                obtain ⟨b1, hb1'⟩ : ∃ b, hdB 101 (tx t3) = b := ⟨_, rfl⟩
                obtain ⟨b2, hb2'⟩ : ∃ b, hdB 69 (tx t3) = b := ⟨_, rfl⟩
                rw [hb1'] at hb1
                rw [hb2'] at hb2
                have hE := HEB.out
                rw [hb1', hb2'] at hE
                have hzi : (0 : Int) < (t3.size : Int) := by omega
                have HX := hid hE
                clear hE hb1' hb2'
                cases b1 <;> (
                  go_wp2_with fail
                  go_meet
                  exact ⟨by rw [← HX.out] <;> rfl, rfl⟩)
              · have hzi : ¬ (0 : Int) < (t3.size : Int) := by omega
                exact absurd (show false = true by rw [← HEB.out, hd_none (by omega), hd_none (by omega)]; rfl) (by decide)
            case rest =>
              obtain ⟨rfl, rfl⟩ := hcut
              obtain ⟨ha1, ha2⟩ := HAT.out
              have ha3 := ha2.1 (by trivial)
              have ha4 := ha2.2 ha3
              have HA1 := hid ha1
              clear ha1 ha2
              go_upto_region 20 with fail
              go_cut [96] (fun v wx => v = .bool sg ∧ wx = w.alloc (.cells #[.bool false, .string ⟨#[]⟩, .int .i64 0] 24))
              case first =>
                by_cases hz : 1 < t3.size
                · have hb1 := hd2_at hz 43 43 rfl
                  have hb2 := hd2_at hz 45 45 rfl
                  obtain ⟨b1, hb1'⟩ : ∃ b, hdB 43 (tx t3).tail = b := ⟨_, rfl⟩
                  obtain ⟨b2, hb2'⟩ : ∃ b, hdB 45 (tx t3).tail = b := ⟨_, rfl⟩
                  rw [hb1'] at hb1
                  rw [hb2'] at hb2
                  have hE := HSG.out
                  rw [hb1', hb2'] at hE
                  have hzi : (1 : Int) < (t3.size : Int) := by omega
                  have HX := hid hE
                  clear hE hb1' hb2' ha4
                  cases b1 <;> (
                    go_wp2_with fail
                    go_meet
                    exact ⟨by rw [← HX.out] <;> rfl, rfl⟩)
                · have hzi : ¬ (1 : Int) < (t3.size : Int) := by omega
                  have HX := hid (show false = sg by rw [← HSG.out, tail_none hz]; rfl)
                  clear hz ha4
                  go_wp2_with fail
                  go_meet
                  exact ⟨by rw [← HX.out], rfl⟩
              case rest =>
                obtain ⟨rfl, rfl⟩ := hcut
                go_upto_if 96 with fail
                go_cut [10] (fun v wx => v = .int .i64 at1 ∧ wx = w.alloc (.cells #[.bool false, .string ⟨#[]⟩, .int .i64 0] 24))
                case first =>
                  clear ha4
                  cases sg
                  · have HX := hid (HA1.out.2 rfl)
                    go_wp2_with fail
                    go_meet
                    exact ⟨by rw [← HX.out] <;> rfl, rfl⟩
                  · have HX := hid (HA1.out.1 rfl)
                    go_wp2_with fail
                    go_meet
                    exact ⟨by rw [← HX.out] <;> rfl, rfl⟩
                case rest =>
                  obtain ⟨rfl, rfl⟩ := hcut
                  have hai : (at1 : Int) ≤ (t3.size : Int) := by omega
                  have HA4 := hid ha4
                  clear ha4
                  go_wp2_with (go_at_call 24; refine (hdig3 _).mono ?_; rintro e w1 ⟨rfl, rfl⟩)
                  have hF := Cls.new w 24 [.bool false, .string ⟨#[]⟩, .int .i64 0]
                  have f0 := hF.cell 0 rfl
                  have f1 := hF.cell 1 rfl
                  have f2 := hF.cell 2 rfl
                  exact bodyPost_ret (v := .tuple #[.agg #[.bool false, .string ⟨#[]⟩, .int .i64 0], .string s, .int .i64 40]) (by simp [results, Tryd.results11, go_sem, f0, f1, f2]) rfl ⟨by rw [HP.out.1, HP.out.2.1, HP.out.2.2, B_tx]; rfl, below_alloc w _⟩

end Go.Proofs.YtbopikeoaokdpaaDoor
