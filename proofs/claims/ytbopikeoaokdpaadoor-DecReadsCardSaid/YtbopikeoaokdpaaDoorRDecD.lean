/- The document's own decimals (targumref04): Parse, the way through: walked. -/
import Derived.Test.YtbopikeoaokdpaaDoorRDecC
namespace Go.Proofs.YtbopikeoaokdpaaDoor
open Go.RowKit
attribute [local go_sem] Oper.semAt_some

theorem nv_take_leq (l : List UInt8) (k : Nat) : nv (l.take k) ≤ nv l := by
  have h := congrArg nv (List.take_append_drop k l)
  rw [nv_append] at h
  have : nv (l.take k) * 1 ≤ nv (l.take k) * 10 ^ (l.drop k).length := Nat.mul_le_mul_left _ (Nat.pow_pos (by omega))
  omega

set_option maxRecDepth 100000 in
set_option maxHeartbeats 4000000 in
theorem rparse_good (s : ByteArray) (hs : s.size ≤ 1000000) (w : World) (h0 : dgp (pr1 (tx s)) ≠ []) (hgood : powOk (pr3 (tx s)) = true) :
    Calls Tryd.prog 11 #[.string s] w fun e w' => e = .returned (.tuple #[(parseD (tx s)).val, .string (B (parseR (tx s))), .int .i64 (parseE (tx s))]) ∧ Below w.heap.size w w' := by
  have hC := Cls.new w 24 [.bool false, .string ⟨#[]⟩, .int .i64 0]
  have hA := below_alloc w (.cells #[.bool false, .string ⟨#[]⟩, .int .i64 0] 24)
  have c0 := hC.cell 0 rfl
  have c1 := hC.cell 1 rfl
  have c2 := hC.cell 2 rfl
  have z0 := hC.frozen 0
  have z1 := hC.frozen 1
  have z2 := hC.frozen 2
  obtain ⟨neg, hneg⟩ : ∃ neg, hdB 45 (tx s) = neg := ⟨_, rfl⟩
  obtain ⟨t1, ht1⟩ : ∃ t1, B (pr1 (tx s)) = t1 := ⟨_, rfl⟩
  have htx1 : tx t1 = pr1 (tx s) := by rw [← ht1, tx_B]
  have hts1 : t1.size ≤ s.size := by
    rw [← txs_len, htx1, ← txs_len s]; unfold pr1; split
    · exact tail_len _
    · exact Nat.le_refl _
  have hT1 : (neg = true → s.extract 1 s.size = t1 ∧ 0 < s.size) ∧ (neg = false → s = t1) := by
    constructor
    · intro e
      refine ⟨eq_of_tx (by rw [tx_tail, htx1]; unfold pr1; rw [hneg, e]; rfl), ?_⟩
      rcases Nat.eq_zero_or_pos s.size with h | h
      · rw [hd_none h] at hneg; rw [← hneg] at e; cases e
      · exact h
    · intro e
      exact eq_of_tx (by rw [htx1]; unfold pr1; rw [hneg, e]; rfl)
  have hNEG := hid hneg
  have HT1 := hid hT1
  have hdig1 := fun W => rdigits_calls t1 (by omega) W
  have hm0 : dgp (tx t1) ≠ [] := by rw [htx1]; exact h0
  obtain ⟨m, hm⟩ : ∃ m, (dgp (tx t1)).length = m := ⟨_, rfl⟩
  have hmp : 0 < m := by rw [← hm]; exact List.length_pos_iff.2 hm0
  have hml : m ≤ t1.size := by rw [← hm, ← txs_len]; exact dgp_le _
  rw [hm] at hdig1
  have hmb : ((m : Int) == 0) = false := by rw [beq_eq_false_iff_ne]; omega
  have h1p : 0 < t1.size := by omega
  obtain ⟨z48, hz48⟩ : ∃ b, hdB 48 (tx t1) = b := ⟨_, rfl⟩
  have hb48 := hd_at h1p 48 48 rfl
  rw [hz48] at hb48
  obtain ⟨p, hp⟩ : ∃ p, (wholeS (tx t1)).length = p := ⟨_, rfl⟩
  have hP : (z48 = true → 1 = p) ∧ (z48 = false → m = p) := by
    rw [← hp, ← hm]
    unfold wholeS
    rw [hz48]
    constructor <;> (intro e; rw [e]; rfl)
  have hpl : p ≤ t1.size := by cases z48 <;> simp at hP <;> omega
  have hpi : (p : Int) ≤ (t1.size : Int) := by omega
  obtain ⟨ww, hww⟩ : ∃ ww, t1.extract 0 p = ww := ⟨_, rfl⟩
  obtain ⟨t2, ht2⟩ : ∃ t2, t1.extract p t1.size = t2 := ⟨_, rfl⟩
  have hwx : tx ww = prW (tx s) := by
    rw [← hww]
    show (t1.extract 0 p).data.toList = _
    rw [extract_take, show t1.data.toList = tx t1 from rfl, ← hp, ← (whole_len (tx t1)).2, htx1]; rfl
  have htx2 : tx t2 = pr2 (tx s) := by rw [← ht2, tx_drop, ← hp, ← (whole_len (tx t1)).1, htx1]; rfl
  have hws : ww.size ≤ s.size := by rw [← txs_len, hwx]; have h := (whole_len (tx t1)).2; rw [htx1] at h; change prW (tx s) = _ at h; rw [h, List.length_take, ← htx1, txs_len]; omega
  have hts2 : t2.size ≤ s.size := by rw [← txs_len, htx2]; have h := wholeR_le (tx t1); rw [htx1] at h; change (pr2 (tx s)).length ≤ _ at h; rw [← htx1, txs_len] at h; omega
  have HPZ := hid hP
  -- the part behind a point
  obtain ⟨u2, hu2⟩ : ∃ u2, t2.extract 1 t2.size = u2 := ⟨_, rfl⟩
  have hux2 : tx u2 = (tx t2).tail := by rw [← hu2, tx_tail]
  have hus2 : u2.size ≤ t2.size := by rw [← txs_len, hux2, ← txs_len t2]; exact tail_len _
  have hdig2 := fun W => rdigits_calls u2 (by omega) W
  obtain ⟨m2, hm2⟩ : ∃ m2, (dgp (tx u2)).length = m2 := ⟨_, rfl⟩
  have hm2l : m2 ≤ u2.size := by rw [← hm2, ← txs_len]; exact dgp_le _
  rw [hm2] at hdig2
  obtain ⟨pb, hpb⟩ : ∃ pb, partB (tx t2) = pb := ⟨_, rfl⟩
  have hPB : pb = (hdB 46 (tx t2) && decide (0 < m2)) := by
    rw [← hpb, ← hm2, hux2]
    unfold partB
    congr 1
    rw [decide_eq_decide]
    exact List.length_pos_iff.symm
  have HPB := hid hPB
  obtain ⟨m3, hm3⟩ : ∃ m3 : Nat, 1 + m2 = m3 := ⟨_, rfl⟩
  obtain ⟨pp, hpp⟩ : ∃ pp, B (partS (tx t2)) = pp := ⟨_, rfl⟩
  have hpx : tx pp = prP (tx s) := by rw [← hpp, tx_B, htx2]; rfl
  obtain ⟨t3, ht3⟩ : ∃ t3, B (partR (tx t2)) = t3 := ⟨_, rfl⟩
  have htx3 : tx t3 = pr3 (tx s) := by rw [← ht3, tx_B, htx2]; rfl
  have hts3 : t3.size ≤ s.size := by rw [← ht3, size_B]; have := partR_le (tx t2); rw [txs_len] at this; omega
  have hps : pp.size ≤ s.size := by rw [← hpp, size_B]; have := partS_le (tx t2); rw [txs_len] at this; omega
  have h2p : pb = true → 0 < t2.size := fun e => by
    rcases Nat.eq_zero_or_pos t2.size with h | h
    · rw [hPB, hd_none h] at e; cases e
    · exact h
  have hus2' : 0 < t2.size → u2.size = t2.size - 1 := fun h => by rw [← txs_len, hux2, List.length_tail, txs_len]
  have hPT : (pb = true → t2.extract 1 m3 = pp ∧ t2.extract m3 t2.size = t3 ∧ (m2 : Int) = (pp.size : Int)) ∧ (pb = false → pp.size = 0 ∧ ww ++ pp = ww ∧ t2 = t3) := by
    constructor
    · intro e
      have e1 : partS (tx t2) = dgp (tx u2) := by unfold partS; rw [hpb, e, hux2]; rfl
      have e2 : partR (tx t2) = (tx t2).drop m3 := by unfold partR; rw [hpb, e, ← hux2, hm2, ← hm3]; show (tx u2).drop m2 = _; rw [hux2, List.drop_tail, Nat.add_comm]
      refine ⟨eq_of_tx ?_, eq_of_tx (by rw [tx_drop, ← ht3, tx_B, e2]), by rw [← hpp, size_B, e1, hm2]⟩
      rw [← hpp, tx_B, e1]
      show (t2.extract 1 m3).data.toList = _
      rw [Lib.extract_data, ← hm3, show 1 + m2 - 1 = m2 by omega, show t2.data.toList.drop 1 = (tx t2).tail from List.drop_one, ← hux2, ← hm2]
      exact dgp_take _
    · intro e
      have e1 : partS (tx t2) = [] := by unfold partS; rw [hpb, e]; rfl
      have e2 : partR (tx t2) = tx t2 := by unfold partR; rw [hpb, e]; rfl
      refine ⟨by rw [← hpp, e1]; rfl, eq_of_tx (by rw [tx_app, ← hpp, e1, tx_B, List.append_nil]), eq_of_tx (by rw [← ht3, tx_B, e2])⟩
  have HPT := hid (And.intro hPT (And.intro h2p hus2'))
  obtain ⟨al, hal⟩ : ∃ al, ww ++ pp = al := ⟨_, rfl⟩
  have halx : tx al = prW (tx s) ++ prP (tx s) := by rw [← hal, tx_app, hwx, hpx]
  have hals : al.size ≤ 2000000 := by rw [← hal, size_app]; omega
  have hE0 : -1000000 ≤ -(pp.size : Int) := by omega
  -- the power
  obtain ⟨eb, heb⟩ : ∃ eb, expB (tx t3) = eb := ⟨_, rfl⟩
  have HEB := hid (show (hdB 101 (tx t3) || hdB 69 (tx t3)) = eb from heb)
  obtain ⟨sg, hsg⟩ : ∃ sg, (hdB 43 (tx t3).tail || hdB 45 (tx t3).tail) = sg := ⟨_, rfl⟩
  have HSG := hid hsg
  obtain ⟨at1, hat1⟩ : ∃ at1 : Nat, (if sg then 2 else 1) = at1 := ⟨_, rfl⟩
  have hat : (sg = true → 2 = at1) ∧ (sg = false → 1 = at1) := by
    constructor <;> (intro e; rw [e] at hat1; exact hat1)
  have hPL : powL (tx t3) = (tx t3).drop at1 := by
    unfold powL
    rw [Bool.or_comm, hsg]
    cases sg
    · rw [← hat.2 rfl, List.drop_one]; rfl
    · rw [← hat.1 rfl]; show (tx t3).tail.tail = _; rw [← List.drop_one, ← List.drop_one, List.drop_drop]
  have hal1 : eb = true → at1 ≤ t3.size := by
    intro e
    cases hq : sg with
    | false =>
      rw [← hat.2 hq]
      rcases Nat.eq_zero_or_pos t3.size with h | h
      · rw [e] at heb; unfold expB at heb; rw [hd_none h, hd_none h] at heb; cases heb
      · omega
    | true =>
      rw [← hat.1 hq]
      by_cases h : 1 < t3.size
      · omega
      · rw [hq, tail_none h] at hsg; cases hsg
  obtain ⟨u3, hu3⟩ : ∃ u3, t3.extract at1 t3.size = u3 := ⟨_, rfl⟩
  have hux3 : tx u3 = powL (tx t3) := by rw [← hu3, tx_drop, hPL]
  have hus3 : u3.size ≤ t3.size := by rw [← txs_len, hux3, hPL, List.length_drop, txs_len]; omega
  have hus3' : at1 ≤ t3.size → u3.size = t3.size - at1 := fun h => by rw [← txs_len, hux3, hPL, List.length_drop, txs_len]
  have hdig3 := fun W => rdigits_calls u3 (by omega) W
  obtain ⟨m4, hm4⟩ : ∃ m4, (dgp (tx u3)).length = m4 := ⟨_, rfl⟩
  have hm4l : m4 ≤ u3.size := by rw [← hm4, ← txs_len]; exact dgp_le _
  rw [hm4] at hdig3
  have hPD : (powD (tx t3)).length = m4 := by unfold powD; rw [← hux3]; exact hm4
  have HAT := hid (And.intro hat (And.intro hal1 hus3'))
  have hat2 : at1 ≤ 2 := by cases sg <;> simp at hat <;> omega
  have hprb : prB (tx s) = powOk (tx t3) := by
    unfold prB
    rw [decide_eq_true (p := prW (tx s) ≠ []) (fun e => h0 ((whole_dg _).1 e)), htx3]; rfl
  have hpwx : powOk (tx t3) = (!(eb && decide (0 < m4)) || decide (m4 ≤ 4)) := by
    unfold powOk powC
    rw [heb, hPD, ← hPD, decide_eq_decide.2 (show powD (tx t3) ≠ [] ↔ 0 < (powD (tx t3)).length from List.length_pos_iff.symm)]
  obtain ⟨y, hy⟩ : ∃ y, powV (tx t3) - (pp.size : Int) = y := ⟨_, rfl⟩
  obtain ⟨t4, ht4⟩ : ∃ t4, B (powR (tx t3)) = t4 := ⟨_, rfl⟩
  have htx4 : tx t4 = powR (pr3 (tx s)) := by rw [← ht4, tx_B, htx3]
  obtain ⟨bm, hbm⟩ : ∃ bm, hdB 45 (tx t3).tail = bm := ⟨_, rfl⟩
  have hpc : powC (tx t3) = (eb && decide (0 < m4)) := by
    unfold powC
    rw [heb, hPD.symm, decide_eq_decide.2 (show powD (tx t3) ≠ [] ↔ 0 < (powD (tx t3)).length from List.length_pos_iff.symm)]
  obtain ⟨m5, hm5⟩ : ∃ m5 : Nat, at1 + m4 = m5 := ⟨_, rfl⟩
  obtain ⟨kv, hkv⟩ : ∃ kv : Nat, nv (dgp (tx u3)) = kv := ⟨_, rfl⟩
  have hPF : ((eb && decide (0 < m4)) = false → t3 = t4 ∧ -(pp.size : Int) = y) ∧ ((eb && decide (0 < m4)) = true → m4 ≤ 4 ∧ t3.extract m5 t3.size = t4 ∧ (if bm then -(kv : Int) else (kv : Int)) - (pp.size : Int) = y) := by
    constructor
    · intro e
      rw [e] at hpc
      refine ⟨eq_of_tx (by rw [← ht4, tx_B]; unfold powR; rw [hpc]; rfl), ?_⟩
      rw [← hy]; unfold powV; rw [hpc, if_neg (by decide), Int.zero_sub]
    · intro e
      rw [e] at hpc
      have hok := hgood
      rw [← htx3, hpwx, e, Bool.not_true, Bool.false_or, decide_eq_true_eq] at hok
      refine ⟨hok, eq_of_tx ?_, ?_⟩
      · rw [tx_drop, ← ht4, tx_B]; unfold powR; rw [hpc, if_pos rfl, hPL, hPD, List.drop_drop, hm5]
      · rw [← hy]; unfold powV powD; rw [hpc, if_pos rfl, hbm, ← hux3, hkv]
  have hDG := dgp_dgs (tx u3)
  have hDL : tx u3 = dgp (tx u3) ++ (tx u3).drop m4 := by rw [← hm4]; exact dgp_drop _
  have hkb : (m4 ≤ 4) → kv < 10000 := fun h => by
    have h4 := nv_bound hDG
    rw [hkv, hm4] at h4
    have : (10 : Nat) ^ m4 ≤ 10 ^ 4 := Nat.pow_le_pow_right (by omega) h
    omega
  have hGET : at1 ≤ t3.size → ∀ i (h : i < m4) (h2 : at1 + i < t3.size), (dgp (tx u3)).take (i + 1) = (dgp (tx u3)).take i ++ [t3[at1 + i]] ∧ isDg (t3[at1 + i]) = true := fun ha i h h2 => by
    have hd : (dgp (tx u3))[i]'(by rw [hm4]; exact h) = t3[at1 + i] := by
      have h5 : (tx u3)[i]? = some (t3[at1 + i]) := by
        rw [hux3, hPL, List.getElem?_drop]
        exact List.getElem?_eq_getElem _
      have h6 : (tx u3)[i]? = some ((dgp (tx u3))[i]'(by rw [hm4]; exact h)) := by
        rw [congrArg (fun l => l[i]?) hDL]
        show (dgp (tx u3) ++ (tx u3).drop m4)[i]? = _
        rw [List.getElem?_append_left (by rw [hm4]; exact h)]
        exact List.getElem?_eq_getElem _
      rw [h5] at h6
      exact (Option.some.inj h6).symm
    rw [List.take_succ_eq_append_getElem (by rw [hm4]; exact h), hd]
    exact ⟨rfl, by rw [← hd]; exact hDG _ (List.getElem_mem _)⟩
  have hy1 : -1010000 ≤ y ∧ y ≤ 10000 := by
    have := powV_bound (l := tx t3) (by rw [htx3]; exact hgood)
    omega
  obtain ⟨hy1, hy2⟩ := hy1
  have hM : prM (tx s) = mk neg (tx al) y := by
    unfold prM
    rw [hneg, halx, ← hy, ← htx3, ← hpx, txs_len]
  have hBB : prB (tx s) = true := by rw [hprb, htx3]; exact hgood
  have hPM : ((mk neg (tx al) y).2 = 0 → parseD (tx s) = (mk neg (tx al) y).1 ∧ parseR (tx s) = tx t4 ∧ parseE (tx s) = 0) ∧ ((mk neg (tx al) y).2 = 40 → parseD (tx s) = D0 ∧ parseR (tx s) = tx s ∧ parseE (tx s) = 40) := by
    rw [← hM]
    unfold parseD parseR parseE
    rw [hBB, htx4]
    exact ⟨fun e => by rw [e]; exact ⟨rfl, rfl, rfl⟩, fun e => by rw [e]; exact ⟨rfl, rfl, rfl⟩⟩
  have hmke := mk_err neg (tx al) y
  have hmake := fun W => rMake_calls neg al y ⟨by omega, by omega⟩ (by omega) W
  obtain ⟨dn, dd, dx, hd⟩ : ∃ dn dd dx, (mk neg (tx al) y).1 = ⟨dn, dd, dx⟩ := ⟨_, _, _, rfl⟩
  obtain ⟨er, her⟩ : ∃ er, (mk neg (tx al) y).2 = er := ⟨_, rfl⟩
  rw [hd, her] at hmake hPM
  rw [her] at hmke
  obtain ⟨ds, hds⟩ : ∃ ds, B dd = ds := ⟨_, rfl⟩
  have hmake' : ∀ W, Calls Tryd.prog 25 #[.bool neg, .string al, .int .i64 y] W fun e w' => e = .returned (.tuple #[.agg #[.bool dn, .string ds, .int .i64 dx], .int .i64 er]) ∧ Below W.heap.size W w' := by rw [← hds]; exact hmake
  have HPF := hid hPF
  have HPM := hid (And.intro hPM (And.intro hds hmke))
  have HKB := hid (And.intro hkb (And.intro hGET (And.intro hm4 (And.intro hkv hbm))))
  have hwp := hal
  have HALL := hid (And.intro hp (And.intro hpb (And.intro heb (And.intro hsg (And.intro hprb (And.intro hpwx (And.intro hPD (And.intro hux3 (And.intro htx3 halx)))))))))
  clear hmake hPM hmke hd her hds hM hBB hGET hkb hDG hDL hPF hkv hbm hpc htx4 ht4 hy hgood
  clear hm0 hm hmp hz48 hp hP htx1 ht1 hT1 hwx htx2 hux2 hm2 hpb hPB hpp hpx ht3 htx3 h2p hus2' hPT hal halx heb hsg hat1 hat hPL hal1 hux3 hus3' hm4 hPD hprb hpwx h0
  go_enter Tryd.func11, Tryd.ntmps11
  go_upto_region 2 with fail
  go_cut [6] (fun v wx => v = .bool neg ∧ wx = w.alloc (.cells #[.bool false, .string ⟨#[]⟩, .int .i64 0] 24))
  case first =>
    by_cases hz : 0 < s.size
    · have hb := hd_at hz 45 45 rfl
      rw [hneg] at hb
      clear hneg
      go_wp2_with fail
      go_meet
      exact ⟨rfl, rfl⟩
    · have hz0 : s.size = 0 := by omega
      have hzi : ¬ (0 : Int) < (s.size : Int) := by omega
      have HN := hid (show neg = false by rw [← hneg]; exact hd_none hz0 45)
      clear hneg hz0
      go_wp2_with fail
      go_meet
      exact ⟨by rw [HN.out], rfl⟩
  case rest =>
    obtain ⟨rfl, rfl⟩ := hcut
    clear hneg
    go_upto_if 24 with fail
    go_cut [5] (fun v wx => v = .string t1 ∧ wx = w.alloc (.cells #[.bool false, .string ⟨#[]⟩, .int .i64 0] 24))
    case first =>
      cases neg
      · have HX := hid (HT1.out.2 rfl)
        go_wp2_with fail
        go_meet
        exact ⟨congrArg Value.string HX.out, rfl⟩
      · obtain ⟨hx1, hx2⟩ := HT1.out.1 rfl
        have hx3 : (1 : Int) ≤ (s.size : Int) := by omega
        go_wp2_with fail
        go_meet
        exact ⟨rfl, rfl⟩
    case rest =>
      obtain ⟨rfl, rfl⟩ := hcut
      go_upto_if 35 with (go_at_call 24; refine (hdig1 _).mono ?_; rintro e w1 ⟨rfl, rfl⟩)
      go_cut [7] (fun v wx => v = .int .i64 p ∧ wx = w.alloc (.cells #[.bool false, .string ⟨#[]⟩, .int .i64 0] 24))
      case first =>
        cases z48
        · have HX := hid (HPZ.out.2 rfl)
          go_wp2_with fail
          go_meet
          exact ⟨by rw [HX.out], rfl⟩
        · have HX := hid (HPZ.out.1 rfl)
          go_wp2_with fail
          go_meet
          exact ⟨by rw [← HX.out] <;> rfl, rfl⟩
      case rest =>
        obtain ⟨rfl, rfl⟩ := hcut
        go_upto_region 13 with fail
        go_cut [55] (fun v wx => v = .bool pb ∧ wx = w.alloc (.cells #[.bool false, .string ⟨#[]⟩, .int .i64 0] 24))
        case first =>
          by_cases hz : 1 < t2.size
          · have hb := hd_at (show 0 < t2.size by omega) 46 46 rfl
            obtain ⟨b46, hb46⟩ : ∃ b, hdB 46 (tx t2) = b := ⟨_, rfl⟩
            rw [hb46] at hb
            have hpb2 := HPB.out
            rw [hb46] at hpb2
            have hzi : (1 : Int) < (t2.size : Int) := by omega
            clear hb46
            cases b46
            · have HX := hid hpb2
              clear hpb2
              go_wp2_with fail
              go_meet
              exact ⟨by rw [HX.out] <;> rfl, rfl⟩
            · obtain ⟨dd, hdd⟩ : ∃ dd, decide (0 < m2) = dd := ⟨_, rfl⟩
              rw [hdd] at hpb2
              have hdi : decide ((0 : Int) < (m2 : Int)) = dd := by rw [← hdd, decide_eq_decide]; omega
              have HX := hid hpb2
              clear hpb2 hdi
              go_wp2_with (go_at_call 24; refine (hdig2 _).mono ?_; rintro e w1 ⟨rfl, rfl⟩)
              go_meet
              exact ⟨by rw [HX.out] <;> rfl, rfl⟩
          · have hzi : ¬ (1 : Int) < (t2.size : Int) := by omega
            have HX := hid (show pb = false by
              rw [HPB.out]
              rcases Nat.eq_zero_or_pos t2.size with h | h
              · rw [hd_none h]; rfl
              · have := HPT.out.2.2 h
                rw [show decide (0 < m2) = false from decide_eq_false (by omega), Bool.and_false])
            clear hz
            go_wp2_with fail
            go_meet
            exact ⟨by rw [HX.out], rfl⟩
        case rest =>
          obtain ⟨rfl, rfl⟩ := hcut
          go_upto_if 55 with fail
          go_cut [5, 7, 8, 9] (fun v5 v7 v8 v9 wx => v5 = .string t3 ∧ (∃ z, v7 = .int .i64 z) ∧ v8 = .string al ∧ v9 = .int .i64 (-(pp.size : Int)) ∧ wx = w.alloc (.cells #[.bool false, .string ⟨#[]⟩, .int .i64 0] 24))
          case first =>
            cases pb
            · obtain ⟨hx1, hx2, hx3⟩ := HPT.out.1.2 rfl
              have HX := hid (And.intro hx1 (And.intro (hx2.symm.trans hwp) hx3))
              clear hx1 hx2 hx3
              go_wp2_with fail
              go_meet
              exact ⟨by rw [HX.out.2.2], ⟨_, rfl⟩, by rw [HX.out.2.1], by rw [HX.out.1]; rfl, rfl⟩
            · obtain ⟨hx1, hx2, hx3⟩ := HPT.out.1.1 rfl
              have hx4 := HPT.out.2.1 rfl
              have hx5 := HPT.out.2.2 hx4
              have hx6 : (1 : Int) ≤ (t2.size : Int) := by omega
              have hx7 : m3 ≤ t2.size := by omega
              have hx8 : (1 : Int) + (m2 : Int) = (m3 : Int) := by omega
              have hx9 : (m3 : Int) ≤ (t2.size : Int) := by omega
              have hx10 : (1 : Int) ≤ (m3 : Int) := by omega
              have HX := hid hx3
              clear hx3 hx5 hm3
              have HZ := hid hwp
              go_wp2_with (go_at_call 24; refine (hdig2 _).mono ?_; rintro e w1 ⟨rfl, rfl⟩)
              go_meet
              exact ⟨rfl, ⟨_, rfl⟩, by first | rfl | rw [HZ.out], by rw [HX.out], rfl⟩
          case rest =>
            obtain ⟨rfl, ⟨z7, rfl⟩, rfl, rfl, rfl⟩ := hcut
            go_upto_region 18 with fail
            go_cut [83] (fun v wx => v = .bool eb ∧ wx = w.alloc (.cells #[.bool false, .string ⟨#[]⟩, .int .i64 0] 24))
            case first =>
              by_cases hz : 0 < t3.size
              · have hb1 := hd_at hz 101 101 rfl
                have hb2 := hd_at hz 69 69 rfl
                obtain ⟨b1, hb1'⟩ : ∃ b, hdB 101 (tx t3) = b := ⟨_, rfl⟩
                obtain ⟨b2, hb2'⟩ : ∃ b, hdB 69 (tx t3) = b := ⟨_, rfl⟩
                rw [hb1'] at hb1
                rw [hb2'] at hb2
                have hE := HEB.out
                rw [hb1', hb2'] at hE
                have hzi : (0 : Int) < (t3.size : Int) := by omega
                have HX := hid hE
                clear hE hb1' hb2'
                cases b1 <;> (
                  go_wp2_with fail
                  go_meet
                  exact ⟨by rw [← HX.out] <;> rfl, rfl⟩)
              · have hzi : ¬ (0 : Int) < (t3.size : Int) := by omega
                have HX := hid (show false = eb by rw [← HEB.out, hd_none (by omega), hd_none (by omega)]; rfl)
                clear hz
                go_wp2_with fail
                go_meet
                exact ⟨by rw [← HX.out], rfl⟩
            case rest =>
              obtain ⟨rfl, rfl⟩ := hcut
              go_upto_if 83 with fail
              go_cut [5, 7, 9, 10, 11, 12] (fun v5 v7 v9 v10 v11 v12 wx => v5 = .string t4 ∧ v9 = .int .i64 y ∧ wx = w.alloc (.cells #[.bool false, .string ⟨#[]⟩, .int .i64 0] 24))
              case first =>
                cases eb
                · have HX := hid (HPF.out.1 rfl)
                  go_wp2_with fail
                  go_meet
                  exact ⟨by rw [HX.out.1], by rw [HX.out.2], rfl⟩
                · obtain ⟨ha1, ha2⟩ := HAT.out
                  have ha3 := ha2.1 (by trivial)
                  have ha4 := ha2.2 ha3
                  have HA1 := hid ha1
                  clear ha1 ha2
                  go_upto_region 20 with fail
                  go_cut [96] (fun v wx => v = .bool sg ∧ wx = w.alloc (.cells #[.bool false, .string ⟨#[]⟩, .int .i64 0] 24))
                  case first =>
                    by_cases hz : 1 < t3.size
                    · have hb1 := hd2_at hz 43 43 rfl
                      have hb2 := hd2_at hz 45 45 rfl
                      obtain ⟨b1, hb1'⟩ : ∃ b, hdB 43 (tx t3).tail = b := ⟨_, rfl⟩
                      obtain ⟨b2, hb2'⟩ : ∃ b, hdB 45 (tx t3).tail = b := ⟨_, rfl⟩
                      rw [hb1'] at hb1
                      rw [hb2'] at hb2
                      have hE := HSG.out
                      rw [hb1', hb2'] at hE
                      have hzi : (1 : Int) < (t3.size : Int) := by omega
                      have HX := hid hE
                      clear hE hb1' hb2' ha4
                      cases b1 <;> (
                        go_wp2_with fail
                        go_meet
                        exact ⟨by rw [← HX.out] <;> rfl, rfl⟩)
                    · have hzi : ¬ (1 : Int) < (t3.size : Int) := by omega
                      have HX := hid (show false = sg by rw [← HSG.out, tail_none hz]; rfl)
                      clear hz ha4
                      go_wp2_with fail
                      go_meet
                      exact ⟨by rw [← HX.out], rfl⟩
                  case rest =>
                    obtain ⟨rfl, rfl⟩ := hcut
                    go_upto_if 96 with fail
                    go_cut [10] (fun v wx => v = .int .i64 at1 ∧ wx = w.alloc (.cells #[.bool false, .string ⟨#[]⟩, .int .i64 0] 24))
                    case first =>
                      clear ha4
                      cases sg
                      · have HX := hid (HA1.out.2 rfl)
                        go_wp2_with fail
                        go_meet
                        exact ⟨by rw [← HX.out] <;> rfl, rfl⟩
                      · have HX := hid (HA1.out.1 rfl)
                        go_wp2_with fail
                        go_meet
                        exact ⟨by rw [← HX.out] <;> rfl, rfl⟩
                    case rest =>
                      obtain ⟨rfl, rfl⟩ := hcut
                      have hai : (at1 : Int) ≤ (t3.size : Int) := by omega
                      have HA4 := hid ha4
                      clear ha4
                      rcases Nat.eq_zero_or_pos m4 with hz4 | hz4
                      · have HX := hid (HPF.out.1 (by rw [hz4]; rfl))
                        subst hz4
                        change ∀ W, Calls _ _ _ _ fun e w' => e = .returned (.int .i64 0) ∧ _ at hdig3
                        go_wp2_with (go_at_call 24; refine (hdig3 _).mono ?_; rintro e w1 ⟨rfl, rfl⟩)
                        go_meet
                        exact ⟨by rw [HX.out.1], by rw [HX.out.2], rfl⟩
                      · obtain ⟨hx1, hx2, hx3⟩ := HPF.out.2 (by rw [decide_eq_true hz4]; rfl)
                        have hx4 : ¬ 4 < m4 := by omega
                        have hx5 := HA4.out
                        have hx6 : m5 ≤ t3.size := by omega
                        have hx7 : (m5 : Int) ≤ (t3.size : Int) := by omega
                        have hx8 : (at1 : Int) + (m4 : Int) = (m5 : Int) := by omega
                        have hx9 : 1 < t3.size := by have := HA1.out; cases sg <;> simp at this <;> omega
                        have hk4 := HKB.out.1 hx1
                        have hb45 := hd2_at hx9 45 45 rfl
                        rw [HKB.out.2.2.2.2] at hb45
                        have HX3 := hid hx3
                        have HX8 := hid hx8
                        have HM5 := hid hm5
                        clear hx3 hx5 hx8 hm5
                        go_wp2_with (go_at_call 24; refine (hdig3 _).mono ?_; rintro e w1 ⟨rfl, rfl⟩)
                        go_loopw [11, 12] (fun v d wr => ∃ (k i : Nat), v = .int .i64 k ∧ d = .int .i64 i ∧ i ≤ m4 ∧ nv ((dgp (tx u3)).take i) = k ∧ wr = w.alloc (.cells #[.bool false, .string ⟨#[]⟩, .int .i64 0] 24)) (fun _ d _ => m4 - (intOf d).toNat)
                        case atStart => exact ⟨0, 0, rfl, rfl, Nat.zero_le _, by rw [List.take_zero, nv_nil], rfl⟩
                        case round =>
                          obtain ⟨k, i, rfl, rfl, hi, hk, rfl⟩ := hrel
                          by_cases hlt : i < m4
                          · have h2 : at1 + i < t3.size := by have := HM5.out; omega
                            obtain ⟨j, hj⟩ : ∃ j, at1 + i = j := ⟨_, rfl⟩
                            have hg := HKB.out.2.1 (by omega) i hlt h2
                            obtain ⟨c, hc⟩ : ∃ c, t3[at1 + i] = c := ⟨_, rfl⟩
                            rw [hc] at hg
                            obtain ⟨hg1, hg2⟩ := hg
                            obtain ⟨e1, e2⟩ := isDg_le hg2
                            have hst : nv ((dgp (tx u3)).take (i + 1)) = k * 10 + (c.toNat - 48) := by rw [hg1, nv_snoc, hk]
                            have hle2 : nv ((dgp (tx u3)).take (i + 1)) ≤ kv := by rw [← HKB.out.2.2.2.1]; exact nv_take_leq _ _
                            rw [hst] at hle2
                            obtain ⟨n', hn'⟩ : ∃ n', k * 10 + (c.toNat - 48) = n' := ⟨_, rfl⟩
                            rw [hn'] at hst hle2
                            have hjs : j < t3.size := by omega
                            have hcj : t3[j] = c := by subst hj; exact hc
                            have e1i : (48 : Int) ≤ (c.toNat : Int) := by omega
                            have e2i : (c.toNat : Int) ≤ 57 := by omega
                            have hji : (at1 : Int) + (i : Int) = (j : Int) := by omega
                            have hni : 10 * (k : Int) + ((c.toNat : Int) - 48) = (n' : Int) := by omega
                            have hkb2 : k < 10000 := by omega
                            have HS := hid hst
                            clear hst hle2 hn' hg1 hg2 hc hj hk h2
                            go_wp2
                            go_roundw
                            case rel => exact ⟨n', i + 1, by simp, by simp, hlt, HS.out, by first | rfl | trivial⟩
                            case measure => simp [intOf]; omega
                          · obtain rfl : i = m4 := by omega
                            have hkk : k = kv := by rw [← hk, ← HKB.out.2.2.2.1, List.take_of_length_le (by rw [HKB.out.2.2.1]; exact Nat.le_refl _)]
                            subst hkk
                            have hx8 := HX8.out
                            clear hk
                            cases bm
                            · have HY := hid (show -(pp.size : Int) + (k : Int) = y by have h := HX3.out; rw [if_neg (by decide)] at h; omega)
                              clear hlt
                              go_wp2_with fail
                              go_meet
                              exact ⟨rfl, by rw [HY.out], rfl⟩
                            · have HY := hid (show -(pp.size : Int) + -(k : Int) = y by have h := HX3.out; rw [if_pos rfl] at h; omega)
                              clear hlt
                              go_wp2_with fail
                              go_meet
                              exact ⟨rfl, by rw [HY.out], rfl⟩
              case rest =>
                obtain ⟨rfl, rfl, rfl⟩ := hcut
                obtain ⟨hPM, hds, hmke⟩ := HPM.out
                have hE : Cls (w.alloc (.cells #[.bool false, .string ⟨#[]⟩, .int .i64 0] 24)) w.heap.size 24 [.bool false, .string ⟨#[]⟩, .int .i64 0] := hC
                rcases hmke with rfl | rfl
                · have HP := hid (And.intro (hPM.1 rfl) hds)
                  clear hPM hds
                  go_wp2_with fail
                  refine (hmake' _).mono ?_
                  rintro e w5 ⟨rfl, hb5⟩
                  have hC5 := hC.below hb5
                  have hW5 := hA.trans (hb5.mono hA.size)
                  have hE5 := Cls.new w5 24 [.bool dn, .string ds, .int .i64 dx]
                  have hlt5 : w.heap.size < w5.heap.size := Nat.lt_of_lt_of_le hC.lt hb5.size
                  clear c0 c1 c2 z0 z1 z2
                  have c0 := hC5.cell 0 rfl
                  have c1 := hC5.cell 1 rfl
                  have c2 := hC5.cell 2 rfl
                  have z0 := hC5.frozen 0
                  have z1 := hC5.frozen 1
                  have z2 := hC5.frozen 2
                  have m0 := hE5.cell 0 rfl
                  have m1 := hE5.cell 1 rfl
                  have m2' := hE5.cell 2 rfl
                  go_wp2
                  have hF := (((hC5.set 0 (.bool dn)).set 1 (.string ds)).set 2 (.int .i64 dx)).alloc (.cells #[.bool dn, .string ds, .int .i64 dx] 24)
                  have f0 := hF.cell 0 rfl
                  have f1 := hF.cell 1 rfl
                  have f2 := hF.cell 2 rfl
                  have hbG := ((hW5.setCell (p := ⟨w.heap.size, 0, none⟩) (Nat.le_refl _) (.bool dn)).setCell (p := ⟨w.heap.size, 1, none⟩) (Nat.le_refl _) (.string ds)).setCell (p := ⟨w.heap.size, 2, none⟩) (Nat.le_refl _) (.int .i64 dx)
                  have hbF := hbG.alloc hbG.size (.cells #[.bool dn, .string ds, .int .i64 dx] 24)
                  exact bodyPost_ret (v := .tuple #[.agg #[.bool dn, .string ds, .int .i64 dx], .string t4, .int .i64 0]) (by simp [results, Tryd.results11, go_sem, f0, f1, f2]) rfl ⟨by rw [HP.out.1.1, HP.out.1.2.1, HP.out.1.2.2, B_tx, ← HP.out.2]; rfl, hbF⟩
                · have HP := hid (hPM.2 rfl)
                  clear hPM hds
                  go_wp2_with fail
                  refine (hmake' _).mono ?_
                  rintro e w5 ⟨rfl, hb5⟩
                  have hC5 := hC.below hb5
                  have hW5 := hA.trans (hb5.mono hA.size)
                  have hlt5 : w.heap.size < w5.heap.size := Nat.lt_of_lt_of_le hC.lt hb5.size
                  clear c0 c1 c2 z0 z1 z2
                  have c0 := hC5.cell 0 rfl
                  have c1 := hC5.cell 1 rfl
                  have c2 := hC5.cell 2 rfl
                  have z0 := hC5.frozen 0
                  have z1 := hC5.frozen 1
                  have z2 := hC5.frozen 2
                  go_wp2
                  have hF := (((hC5.set 0 (.bool false)).set 1 (.string ⟨#[]⟩)).set 2 (.int .i64 0)).alloc (.cells #[.bool dn, .string ds, .int .i64 dx] 24)
                  have f0 := hF.cell 0 rfl
                  have f1 := hF.cell 1 rfl
                  have f2 := hF.cell 2 rfl
                  have hbG := ((hW5.setCell (p := ⟨w.heap.size, 0, none⟩) (Nat.le_refl _) (.bool false)).setCell (p := ⟨w.heap.size, 1, none⟩) (Nat.le_refl _) (.string ⟨#[]⟩)).setCell (p := ⟨w.heap.size, 2, none⟩) (Nat.le_refl _) (.int .i64 0)
                  have hbF := hbG.alloc hbG.size (.cells #[.bool dn, .string ds, .int .i64 dx] 24)
                  exact bodyPost_ret (v := .tuple #[.agg #[.bool false, .string ⟨#[]⟩, .int .i64 0], .string s, .int .i64 40]) (by simp [results, Tryd.results11, go_sem, f0, f1, f2]) rfl ⟨by rw [HP.out.1, HP.out.2.1, HP.out.2.2, B_tx]; rfl, hbF⟩


theorem rParse_calls (s : ByteArray) (hs : s.size ≤ 1000000) (w : World) :
    Calls Tryd.prog 11 #[.string s] w fun e w' => e = .returned (.tuple #[(parseD (tx s)).val, .string (B (parseR (tx s))), .int .i64 (parseE (tx s))]) ∧ Below w.heap.size w w' := by
  by_cases h0 : dgp (pr1 (tx s)) = []
  · exact rparse_none s hs w h0
  · cases h : powOk (pr3 (tx s)) with
    | true => exact rparse_good s hs w h0 h
    | false => exact rparse_long s hs w h0 h

end Go.Proofs.YtbopikeoaokdpaaDoor
