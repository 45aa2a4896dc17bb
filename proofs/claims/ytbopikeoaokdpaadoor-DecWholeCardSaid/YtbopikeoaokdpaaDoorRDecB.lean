/- The document's own decimals (targumref04): Make: walked. -/
import Derived.Test.YtbopikeoaokdpaaDoorRDecA
import Derived.Test.YtbopikeoaokdpaaDoorDecQ
namespace Go.Proofs.YtbopikeoaokdpaaDoor
open Go.RowKit
attribute [local go_sem] Oper.semAt_some

theorem trim_strip : ∀ (l : List UInt8), l ≠ [] → trimL l = if stripL l = [] then [48] else stripL l
  | [], h => absurd rfl h
  | [c], _ => by
    rw [trimL_one]
    unfold stripL
    by_cases h : c = 48
    · subst h; rfl
    · rw [List.dropWhile_cons_of_neg (by rw [beq_iff_eq]; exact h), if_neg (by simp)]
  | c :: d :: r, _ => by
    by_cases h : c = 48
    · subst h
      rw [trimL_zero, trim_strip (d :: r) (by simp)]
      rfl
    · rw [trimL_other h]
      unfold stripL
      rw [List.dropWhile_cons_of_neg (by rw [beq_iff_eq]; exact h), if_neg (by simp)]
theorem stripR_snoc (l : List UInt8) : stripR (l ++ [48]) = stripR l := by
  unfold stripR
  rw [List.reverse_append]; rfl
theorem stripR_other {l : List UInt8} (h : l.getLast? ≠ some 48) : stripR l = l := by
  have := strip_zeros 0 l h
  rw [List.replicate_zero, List.append_nil] at this
  exact this
theorem stripL_head (l : List UInt8) : (stripL l).head? ≠ some 48 := by
  unfold stripL
  induction l with
  | nil => intro e; cases e
  | cons c r ih =>
    by_cases h : c = 48
    · subst h; exact ih
    · rw [List.dropWhile_cons_of_neg (by rw [beq_iff_eq]; exact h)]
      intro e; cases e; exact h rfl

theorem dgs_not {l : List UInt8} {k : Nat} (hk : k < l.length) (h : isDg l[k] = false) : l.all isDg = false := by
  cases e : l.all isDg with
  | false => rfl
  | true => rw [List.all_eq_true.1 e _ (List.getElem_mem hk)] at h; cases h

set_option maxRecDepth 100000 in
set_option maxHeartbeats 2000000 in
theorem rmake_pre (n : Bool) (s : ByteArray) (x : Int) (_hx : -9223372036854775808 ≤ x ∧ x ≤ 9223372036854775807) (_hs : s.size ≤ 140737488355328) (w : World)
    (hno : (s.size : Int) < 1 ∨ (¬ (s.size : Int) < 1 ∧ (400 : Int) < s.size) ∨ (¬ (s.size : Int) < 1 ∧ ¬ (400 : Int) < s.size ∧ x < -1000) ∨ (¬ (s.size : Int) < 1 ∧ ¬ (400 : Int) < s.size ∧ ¬ x < -1000 ∧ 1000 < x)) :
    Calls Tryd.prog 25 #[.bool n, .string s, .int .i64 x] w fun e w' => e = .returned (.tuple #[.agg #[.bool false, .string ⟨#[]⟩, .int .i64 0], .int .i64 40]) ∧ Below w.heap.size w w' := by
  have hC := Cls.new w 24 [.bool false, .string ⟨#[]⟩, .int .i64 0]
  have hA := below_alloc w (.cells #[.bool false, .string ⟨#[]⟩, .int .i64 0] 24)
  have c0 := hC.cell 0 rfl
  have z0 := hC.frozen 0
  have c1 := hC.cell 1 rfl
  have z1 := hC.frozen 1
  have c2 := hC.cell 2 rfl
  have z2 := hC.frozen 2
  rcases hno with h1 | ⟨h1, h2⟩ | ⟨h1, h2, h3⟩ | ⟨h1, h2, h3, h4⟩
  all_goals (
    go_enter Tryd.func25, Tryd.ntmps25
    go_wp2
    have hF := Cls.new w 24 [.bool false, .string ⟨#[]⟩, .int .i64 0]
    have f0 := hF.cell 0 rfl
    have f1 := hF.cell 1 rfl
    have f2 := hF.cell 2 rfl
    exact bodyPost_ret (v := .tuple #[.agg #[.bool false, .string ⟨#[]⟩, .int .i64 0], .int .i64 40]) (by simp [results, Tryd.results25, go_sem, f0, f1, f2]) rfl ⟨rfl, below_alloc w _⟩)

set_option maxRecDepth 100000 in
set_option maxHeartbeats 4000000 in
theorem rmake_in (n : Bool) (s : ByteArray) (x : Int) (h1 : ¬ (s.size : Int) < 1) (h2 : ¬ (400 : Int) < s.size) (h3 : ¬ x < -1000) (h4 : ¬ 1000 < x) (w : World) :
    Calls Tryd.prog 25 #[.bool n, .string s, .int .i64 x] w fun e w' => e = .returned (.tuple #[(mk n (tx s) x).1.val, .int .i64 (mk n (tx s) x).2]) ∧ Below w.heap.size w w' := by
  have hC := Cls.new w 24 [.bool false, .string ⟨#[]⟩, .int .i64 0]
  have hA := below_alloc w (.cells #[.bool false, .string ⟨#[]⟩, .int .i64 0] 24)
  have c0 := hC.cell 0 rfl
  have z0 := hC.frozen 0
  have c1 := hC.cell 1 rfl
  have z1 := hC.frozen 1
  have c2 := hC.cell 2 rfl
  have z2 := hC.frozen 2
  have hl := txs_len s
  have hne : tx s ≠ [] := by intro e; rw [e] at hl; simp at hl; omega
  have htrim := fun W => same_symm (rTrim_calls s (by omega) W)
  obtain ⟨q, hq⟩ : ∃ q : ByteArray, (⟨(trimL (tx s)).toArray⟩ : ByteArray) = q := ⟨_, rfl⟩
  have hqx : tx q = if stripL (tx s) = [] then [48] else stripL (tx s) := by rw [← hq, ← trim_strip _ hne]; exact tx_B _
  rw [hq] at htrim
  have hok : (tx s).all isDg = true → mkOk (tx s) x = true := fun h => by
    unfold mkOk
    rw [h, decide_eq_true hne, hl, decide_eq_true (show s.size ≤ 400 by omega), decide_eq_true (show -1000 ≤ x by omega), decide_eq_true (show x ≤ 1000 by omega)]; rfl
  have hbad : (tx s).all isDg = false → mk n (tx s) x = (D0, 40) := fun h => by
    unfold mk mkOk
    rw [h]; simp
  have HH := hid (And.intro hok (And.intro hbad (And.intro hqx (And.intro hl hne))))
  have hs4 : s.size ≤ 400 := by omega
  clear hok hbad hqx hl hne hq
  go_enter Tryd.func25, Tryd.ntmps25
  go_wp2
  go_loopw [8] (fun v wr => ∃ k : Nat, v = .int .i64 k ∧ k ≤ s.size ∧ Dgs ((tx s).take k) ∧ wr = w.alloc (.cells #[.bool false, .string ⟨#[]⟩, .int .i64 0] 24)) (fun v _ => s.size - (intOf v).toNat)
  case atStart => exact ⟨0, rfl, Nat.zero_le _, by rw [List.take_zero]; exact Dgs.nil, rfl⟩
  case round =>
    obtain ⟨k, rfl, hk, hD, rfl⟩ := hrel
    by_cases hlt : k < s.size
    · obtain ⟨c, hc⟩ : ∃ c, s[k] = c := ⟨_, rfl⟩
      have hc2 : (tx s)[k]'(by rw [txs_len]; exact hlt) = c := hc
      cases hdg : isDg c with
      | true =>
        obtain ⟨hd1, hd2⟩ := isDg_le hdg
        have hd3 : ¬ (c.toNat : Int) < 48 := by omega
        have hd4 : ¬ (57 : Int) < (c.toNat : Int) := by omega
        have hn : Dgs ((tx s).take (k + 1)) := by rw [txs_take s hlt, hc]; exact Dgs.append hD (Dgs.cons hdg Dgs.nil)
        have HN := hid hn
        clear hn hD hc2 hdg
        go_wp2
        go_roundw
        case rel => exact ⟨k + 1, by simp, hlt, HN.out, by first | rfl | trivial⟩
        case measure => simp [intOf]; omega
      | false =>
        have hd := isDg_out hdg
        have HR := hid (HH.out.2.1 (dgs_not (k := k) (by rw [txs_len]; exact hlt) (by rw [hc2]; exact hdg)))
        clear hD hc2 hdg
        rcases hd with e1 | ⟨e1, e2⟩
        all_goals (
          go_wp2
          have hF := Cls.new w 24 [.bool false, .string ⟨#[]⟩, .int .i64 0]
          have f0 := hF.cell 0 rfl
          have f1 := hF.cell 1 rfl
          have f2 := hF.cell 2 rfl
          exact bodyPost_ret (v := .tuple #[.agg #[.bool false, .string ⟨#[]⟩, .int .i64 0], .int .i64 40]) (by simp [results, Tryd.results25, go_sem, f0, f1, f2]) rfl ⟨by rw [HR.out]; rfl, below_alloc w _⟩)
    · have hall : (tx s).all isDg = true := by
        rw [List.all_eq_true]
        rw [List.take_of_length_le (by rw [txs_len]; omega)] at hD
        exact hD
      have hOK := HH.out.1 hall
      have hqx := HH.out.2.2.1
      by_cases ht0 : stripL (tx s) = []
      · rw [if_pos ht0] at hqx
        have HR := hid (show mk n (tx s) x = (Dz, 0) by unfold mk; rw [if_pos hOK, if_pos ht0])
        have hb : (q.toList == [48]) = true := by rw [beq_iff_eq, Lib.toList_data]; exact hqx
        clear hqx ht0 hall hOK hD
        go_wp2_with (go_at_call 44; refine (htrim _).mono ?_; rintro e w1 ⟨rfl, rfl⟩)
        have hF := Cls.new w 24 [.bool false, .string ⟨#[48]⟩, .int .i64 0]
        have f0 := hF.cell 0 rfl
        have f1 := hF.cell 1 rfl
        have f2 := hF.cell 2 rfl
        exact bodyPost_ret (v := .tuple #[.agg #[.bool false, .string ⟨#[48]⟩, .int .i64 0], .int .i64 0]) (by simp [results, Tryd.results25, go_sem, f0, f1, f2]) rfl ⟨by rw [HR.out]; rfl, below_alloc w _⟩
      · rw [if_neg ht0] at hqx
        have hhd := stripL_head (tx s)
        rw [← hqx] at hhd
        have hne48 : tx q ≠ [48] := by intro e; rw [e] at hhd; exact hhd rfl
        have hb : (q.toList == [48]) = false := by rw [beq_eq_false_iff_ne, Lib.toList_data]; exact hne48
        have hql := txs_len q
        have hq0 : 0 < q.size := by
          rcases Nat.eq_zero_or_pos q.size with e | e
          · exact absurd (hqx.symm.trans (List.eq_nil_of_length_eq_zero (by rw [hql]; exact e))) ht0
          · exact e
        have hq4 : q.size ≤ 400 := by
          have := stripL_le (tx s); rw [← hqx, hql, txs_len] at this; omega
        have HQ := hid (And.intro hqx (And.intro ht0 (And.intro hOK hhd)))
        clear hqx ht0 hall hOK hD hhd hne48 hql
        go_wp2_with (go_at_call 44; refine (htrim _).mono ?_; rintro e w1 ⟨rfl, rfl⟩)
        go_loopw [1, 2] (fun v d wr => ∃ (t : ByteArray) (y : Int), v = .string t ∧ d = .int .i64 y ∧ 0 < t.size ∧ t.size ≤ q.size ∧ y + t.size = x + q.size ∧ stripR (tx t) = stripR (tx q) ∧ (tx t).head? = (tx q).head? ∧ wr = w.alloc (.cells #[.bool false, .string ⟨#[]⟩, .int .i64 0] 24)) (fun v _ _ => sizeV v)
        case atStart => exact ⟨q, x, rfl, rfl, hq0, Nat.le_refl _, rfl, rfl, rfl, rfl⟩
        case round =>
          obtain ⟨t, y, rfl, rfl, ht0, htq, hy, hst, hth, rfl⟩ := hrel
          have htl := txs_len t
          obtain ⟨j, hj⟩ : ∃ j : Nat, t.size - 1 = j := ⟨_, rfl⟩
          have hjs : j < t.size := by omega
          have hji : (t.size : Int) - 1 = (j : Int) := by omega
          obtain ⟨c, hc⟩ : ∃ c, t[j] = c := ⟨_, rfl⟩
          have hsp : tx t = (tx t).take j ++ [c] := by
            have := txs_take t hjs
            rw [List.take_of_length_le (by omega), hc] at this
            exact this
          have hlast : (tx t).getLast? = some c := by rw [hsp, List.getLast?_concat]
          have hyb : -2000 ≤ y ∧ y ≤ 2000 := by omega
          obtain ⟨hy1, hy2⟩ := hyb
          have HY := hid hy
          clear hy
          by_cases h48 : c = 48
          · have hcb : ((c.toNat : Int) == 48) = true := by rw [beq_iff_eq]; exact (byte48 c).1 h48
            have hj0 : 0 < j := by
              rcases Nat.eq_zero_or_pos j with e | e
              · exfalso
                rw [e, List.take_zero, List.nil_append, h48] at hsp
                rw [hsp] at hth
                exact HQ.out.2.2.2 hth.symm
              · exact e
            have htx2 : tx (t.extract 0 j) = (tx t).take j := extract_take t j
            have hts2 : (t.extract 0 j).size = j := by rw [← txs_len, htx2, List.length_take, htl]; omega
            have hst2 : stripR (tx (t.extract 0 j)) = stripR (tx q) := by
              rw [htx2, ← hst]
              conv => rhs; rw [hsp, h48]
              rw [stripR_snoc]
            have hth2 : (tx (t.extract 0 j)).head? = (tx q).head? := by
              rw [htx2, List.head?_take, if_neg (by omega), hth]
            obtain ⟨t', ht'⟩ : ∃ t', t.extract 0 j = t' := ⟨_, rfl⟩
            rw [ht'] at hts2 hst2 hth2
            have HS := hid (And.intro hts2 (And.intro hst2 hth2))
            have hji2 : (j : Int) ≤ (t.size : Int) := by omega
            clear hsp hlast htx2 hts2 hst2 hth2 hst hth hj htl h48
            go_wp2
            go_roundw
            case rel => exact ⟨t', y + 1, rfl, rfl, by rw [HS.out.1]; exact hj0, by rw [HS.out.1]; omega, by rw [HS.out.1, ← HY.out]; omega, HS.out.2.1, HS.out.2.2, by first | rfl | trivial⟩
            case measure => simp only [sizeV]; rw [HS.out.1]; omega
          · have hcb : ((c.toNat : Int) == 48) = false := by rw [beq_eq_false_iff_ne]; intro e; exact h48 ((byte48 c).2 e)
            have hSR : stripR (tx q) = tx t := by rw [← hst]; exact stripR_other (by rw [hlast]; intro e; exact h48 (Option.some.inj e))
            have hmk : mkD n (tx s) x = ⟨n, tx t, y⟩ := by
              unfold mkD
              rw [← HQ.out.1, hSR]
              exact D.ext' rfl rfl (by show x + ((tx q).length : Nat) - ((tx t).length : Nat) = y; rw [txs_len, txs_len, ← HY.out]; omega)
            have hR : mk n (tx s) x = if decR ⟨n, tx t, y⟩ then (⟨n, tx t, y⟩, 0) else (D0, 40) := by
              unfold mk
              rw [if_pos HQ.out.2.2.1, if_neg HQ.out.2.1, hmk]
            have hright := fun W => rdecRight_calls n t y (by omega) W
            obtain ⟨bR, hbR⟩ : ∃ bR, decR ⟨n, tx t, y⟩ = bR := ⟨_, rfl⟩
            rw [hbR] at hright hR
            have hBt := hid (B_tx t)
            have hE := Cls.new (w.alloc (.cells #[.bool false, .string ⟨#[]⟩, .int .i64 0] 24)) 24 [.bool n, .string t, .int .i64 y]
            have hC2 := hC.alloc (.cells #[.bool n, .string t, .int .i64 y] 24)
            have hA2 := hA.alloc hA.size (.cells #[.bool n, .string t, .int .i64 y] 24)
            rw [World.size_alloc] at hE
            clear hsp hlast hst hth hj htl h48 hSR hmk hbR
            clear c0 c1 c2 z0 z1 z2
            have c0 := hC2.cell 0 rfl
            have z0 := hC2.frozen 0
            have c1 := hC2.cell 1 rfl
            have z1 := hC2.frozen 1
            have c2 := hC2.cell 2 rfl
            have z2 := hC2.frozen 2
            have k0 := hE.cell 0 rfl
            have y0 := hE.frozen 0
            have k1 := hE.cell 1 rfl
            have y1 := hE.frozen 1
            have k2 := hE.cell 2 rfl
            have y2 := hE.frozen 2
            have hzz : w.heap.size < w.heap.size + 1 := by omega
            cases bR
            · have HR := hid (show mk n (tx s) x = (D0, 40) by rw [hR]; rfl)
              clear hR
              go_wp2_with (go_at_call 45; refine (hright _).mono ?_; rintro e w6 ⟨rfl, hb6⟩; have hC6 := hC2.below hb6; have hE6 := hE.below hb6; have HB6 := hid (hA2.trans (hb6.mono hA2.size)); have c0 := hC6.cell 0 rfl; have c1 := hC6.cell 1 rfl; have c2 := hC6.cell 2 rfl; have z0 := hC6.frozen 0; have z1 := hC6.frozen 1; have z2 := hC6.frozen 2; have m0 := hE6.cell 0 rfl; have m1 := hE6.cell 1 rfl; have m2 := hE6.cell 2 rfl)
              have hF := ((hC6.set 0 (.bool false)).set 1 (.string ⟨#[]⟩)).set 2 (.int .i64 0)
              have f0 := hF.cell 0 rfl
              have f1 := hF.cell 1 rfl
              have f2 := hF.cell 2 rfl
              have hbF := ((HB6.out.setCell (p := ⟨w.heap.size, 0, none⟩) (Nat.le_refl _) (.bool false)).setCell (p := ⟨w.heap.size, 1, none⟩) (Nat.le_refl _) (.string ⟨#[]⟩)).setCell (p := ⟨w.heap.size, 2, none⟩) (Nat.le_refl _) (.int .i64 0)
              exact bodyPost_ret (v := .tuple #[.agg #[.bool false, .string ⟨#[]⟩, .int .i64 0], .int .i64 40]) (by simp [results, Tryd.results25, go_sem, f0, f1, f2]) rfl ⟨by rw [HR.out]; rfl, hbF⟩
            · have HR := hid (show mk n (tx s) x = (⟨n, tx t, y⟩, 0) by rw [hR]; rfl)
              clear hR
              go_wp2_with (go_at_call 45; refine (hright _).mono ?_; rintro e w6 ⟨rfl, hb6⟩; have hC6 := hC2.below hb6; have hE6 := hE.below hb6; have HB6 := hid (hA2.trans (hb6.mono hA2.size)); have c0 := hC6.cell 0 rfl; have c1 := hC6.cell 1 rfl; have c2 := hC6.cell 2 rfl; have z0 := hC6.frozen 0; have z1 := hC6.frozen 1; have z2 := hC6.frozen 2; have m0 := hE6.cell 0 rfl; have m1 := hE6.cell 1 rfl; have m2 := hE6.cell 2 rfl)
              have hF := ((hC6.set 0 (.bool n)).set 1 (.string t)).set 2 (.int .i64 y)
              have f0 := hF.cell 0 rfl
              have f1 := hF.cell 1 rfl
              have f2 := hF.cell 2 rfl
              have hbF := ((HB6.out.setCell (p := ⟨w.heap.size, 0, none⟩) (Nat.le_refl _) (.bool n)).setCell (p := ⟨w.heap.size, 1, none⟩) (Nat.le_refl _) (.string t)).setCell (p := ⟨w.heap.size, 2, none⟩) (Nat.le_refl _) (.int .i64 y)
              exact bodyPost_ret (v := .tuple #[.agg #[.bool n, .string t, .int .i64 y], .int .i64 0]) (by simp [results, Tryd.results25, go_sem, f0, f1, f2]) rfl ⟨by rw [HR.out]; unfold D.val; rw [hBt.out]; rfl, hbF⟩

theorem rMake_calls (n : Bool) (s : ByteArray) (x : Int) (hx : -9223372036854775808 ≤ x ∧ x ≤ 9223372036854775807) (hs : s.size ≤ 140737488355328) (w : World) :
    Calls Tryd.prog 25 #[.bool n, .string s, .int .i64 x] w fun e w' => e = .returned (.tuple #[(mk n (tx s) x).1.val, .int .i64 (mk n (tx s) x).2]) ∧ Below w.heap.size w w' := by
  by_cases h : ¬ (s.size : Int) < 1 ∧ ¬ (400 : Int) < s.size ∧ ¬ x < -1000 ∧ ¬ 1000 < x
  · exact rmake_in n s x h.1 h.2.1 h.2.2.1 h.2.2.2 w
  · have hm : mk n (tx s) x = (D0, 40) := by
      unfold mk
      rw [if_neg]
      unfold mkOk
      rw [Bool.and_eq_true, Bool.and_eq_true, Bool.and_eq_true, Bool.and_eq_true, decide_eq_true_eq, decide_eq_true_eq, decide_eq_true_eq, decide_eq_true_eq, txs_len]
      rintro ⟨g1, g2, ⟨g3, g4⟩, _⟩
      have := txs_len s
      exact h ⟨fun e => g1 (List.eq_nil_of_length_eq_zero (by omega)), by omega, by omega, by omega⟩
    rw [hm]
    exact rmake_pre n s x hx hs w (by omega)
end Go.Proofs.YtbopikeoaokdpaaDoor
