/- Package dec: strconv.Atoi at digits; the reader: power: walked. -/
import Derived.Test.YtbopikeoaokdpaaDoorDecD
namespace Go.Proofs.YtbopikeoaokdpaaDoor
open Go.RowKit
attribute [local go_sem] Oper.semAt_some

theorem parse10_ok : ∀ (g : List UInt8) (a : Nat), Dgs g → a ≤ 18446744073709551615 → (nvA a g ≤ 18446744073709551615 → Lib.parseUint10 a g = .ok (nvA a g)) ∧ (18446744073709551615 < nvA a g → Lib.parseUint10 a g = .range)
  | [], a, _, ha => by rw [nvA_nil]; exact ⟨fun _ => rfl, fun h => by omega⟩
  | c :: r, a, hd, ha => by
    have hc := dg_bounds (hd c (by simp))
    rw [nvA_cons, Lib.parseUint10, if_pos hc]
    have hge := nvA_ge (a * 10 + (c.toNat - 48)) r
    by_cases e1 : 1844674407370955162 ≤ a
    · rw [if_pos e1]
      exact ⟨fun h => by omega, fun _ => rfl⟩
    · rw [if_neg e1]
      by_cases e2 : 18446744073709551616 ≤ a * 10 + (c.toNat - 48)
      · rw [if_pos e2]
        exact ⟨fun h => by omega, fun _ => rfl⟩
      · rw [if_neg e2]
        exact parse10_ok r _ hd.tail (by omega)

theorem atoi_dg {l : List UInt8} (h0 : l ≠ []) (hd : Dgs l) : (nv l ≤ 9223372036854775807 ∧ Lib.atoiAll l = .ok (nv l : Nat)) ∨ (9223372036854775807 < nv l ∧ Lib.atoiAll l = .range ∧ Lib.atoiSat l = 9223372036854775807) := by
  obtain ⟨c, r, rfl⟩ : ∃ c r, l = c :: r := by
    cases l with
    | nil => exact absurd rfl h0
    | cons c r => exact ⟨c, r, rfl⟩
  have hc := dg_bounds (hd c (by simp))
  have hp := parse10_ok (c :: r) 0 hd (by omega)
  have hm : Lib.parseMag (c :: r) = Lib.parseUint10 0 (c :: r) := by unfold Lib.parseMag; rw [if_neg (by simp)]
  have hs : Lib.atoiSat (c :: r) = 9223372036854775807 := by
    unfold Lib.atoiSat
    rw [List.head?_cons, if_neg]
    show ¬ (some c.toNat = some 45)
    intro e
    have := Option.some.inj e
    omega
  have hn45 : ¬ c.toNat = 45 := by omega
  have hsg : ¬ (c.toNat = 43 ∨ c.toNat = 45) := by omega
  change (nv (c :: r) ≤ _ → Lib.parseUint10 0 (c :: r) = .ok (nv (c :: r))) ∧ (_ < nv (c :: r) → _) at hp
  unfold Lib.atoiAll
  simp only [hsg, if_false, hm]
  by_cases h : nv (c :: r) ≤ 18446744073709551615
  · rw [hp.1 h]
    simp only [hn45, not_false_eq_true, true_and, false_and, if_false]
    by_cases h2 : 9223372036854775808 ≤ nv (c :: r)
    · rw [if_pos h2]
      exact .inr ⟨by omega, rfl, hs⟩
    · rw [if_neg h2]
      exact .inl ⟨by omega, rfl⟩
  · rw [hp.2 (by omega)]
    exact .inr ⟨by omega, rfl, hs⟩

/-- strconv.Atoi, of digits, few or many, or of none. -/
theorem atoi_calls (s : ByteArray) (hs : s.size ≤ 140737488355328) (hd : Dgs (tx s)) (w : World) (hT : Tabs w) :
    Calls Tryd.prog 43 #[.string s] w fun e w' => (∃ (v : Int) (er : Value), e = .returned (.tuple #[.int .i64 v, er]) ∧ (-9223372036854775807 ≤ v ∧ v ≤ 9223372036854775807) ∧ ((er = .nilIface ∧ v = nv (tx s)) ∨ ((∃ (a : TypeId) (p : Value), er = .iface a p) ∧ ¬ (1 ≤ (tx s).length ∧ (tx s).length ≤ 4)))) ∧ Below w.heap.size w w' := by
  by_cases h0 : tx s = []
  · have hse : s = ⟨#[]⟩ := by rw [← B_tx s, h0]; rfl
    subst hse
    obtain ⟨tp, p, hv⟩ := hT.synt
    refine (Tryd.strconv_Atoi_empty tp p w hv).mono ?_
    rintro e w' ⟨⟨N, rfl⟩, hb⟩
    exact ⟨⟨_, _, rfl, ⟨by decide, by decide⟩, .inr ⟨⟨_, _, rfl⟩, fun h => absurd h.1 (by decide)⟩⟩, hb⟩
  · rcases atoi_dg h0 hd with ⟨h1, h2⟩ | ⟨h1, h2, h3⟩
    · refine (Tryd.strconv_Atoi_ok s (by omega) _ h2 w).mono ?_
      rintro e w' ⟨rfl, hw⟩
      refine ⟨⟨_, _, rfl, ⟨by omega, by omega⟩, .inl ⟨rfl, rfl⟩⟩, ?_⟩
      rcases hw with rfl | ⟨t, rfl⟩
      · exact Below.refl _ _
      · exact Joins.below_bytesWorld _ _ _ _ (Nat.le_refl _)
    · obtain ⟨tp, p, hv⟩ := hT.range
      refine (Tryd.strconv_Atoi_range_var s (by omega) h2 tp p w hv).mono ?_
      rintro e w' ⟨N, rfl, _, _, hb⟩
      rw [show Lib.atoiSat s.data.toList = 9223372036854775807 from h3]
      refine ⟨⟨_, _, rfl, ⟨by decide, by decide⟩, .inr ⟨⟨_, _, rfl⟩, fun h => ?_⟩⟩, hb⟩
      have h4 := nv_bound hd
      have : (10 : Nat) ^ (tx s).length ≤ 10 ^ 4 := Nat.pow_le_pow_right (by omega) h.2
      omega

def expB (l : List UInt8) : Bool := hdB 101 l || hdB 69 l
def powL (l : List UInt8) : List UInt8 := if hdB 45 l.tail || hdB 43 l.tail then l.tail.tail else l.tail
def powD (l : List UInt8) : List UInt8 := dgp (powL l)
def powC (l : List UInt8) : Bool := expB l && decide (powD l ≠ [])
def powOk (l : List UInt8) : Bool := !powC l || decide ((powD l).length ≤ 4)
def powV (l : List UInt8) : Int := if powC l then (if hdB 45 l.tail then -(nv (powD l) : Nat) else (nv (powD l) : Nat)) else 0
def powR (l : List UInt8) : List UInt8 := if powC l then (powL l).drop (powD l).length else l

/-- what power hands back. -/
def PowPost (b : Nat) (l : List UInt8) (w : World) (e : Ending) (w' : World) : Prop := (∃ v : Int, e = .returned (.tuple #[.int .i64 v, .bool (powOk l)]) ∧ (powOk l = true → v = powV l) ∧ (-9223372036854775807 ≤ v ∧ v ≤ 9223372036854775807)) ∧ Boxed w' b 49 (.string (B (powR l))) ∧ Below b w w'

set_option maxRecDepth 100000 in
set_option maxHeartbeats 4000000 in
theorem power_none (b : Nat) (t : ByteArray) (hts : t.size ≤ 140737488355328) (w : World) (hB : Boxed w b 49 (.string t)) (he : expB (tx t) = false) :
    Calls Tryd.prog 23 #[.pointer (some ⟨b, 0, none⟩)] w (PowPost b (tx t) w) := by
  have hn := isNext_two b t hts 101 69 101 69 rfl rfl w hB
  have hC : powC (tx t) = false := by unfold powC; rw [he]; rfl
  have HR := hid (show powOk (tx t) = true ∧ powV (tx t) = 0 ∧ powR (tx t) = tx t by unfold powOk powV powR; rw [hC]; exact ⟨rfl, rfl, rfl⟩)
  change Calls _ _ _ _ fun e w' => e = .returned (.bool (expB (tx t))) ∧ Boxed w' b _ (.string (B (if expB (tx t) then (tx t).tail else tx t))) ∧ _ at hn
  rw [he] at hn
  simp only [Bool.false_eq_true, if_false, B_tx] at hn
  have c0 := hB.cell
  clear hC he
  go_enter Tryd.func23, Tryd.ntmps23
  go_wp2_with (go_at_call 20; refine hn.mono ?_; rintro e w1 ⟨rfl, hB1, hb1⟩; have z1 := hB1.frozen; have c1 := hB1.cell; have HG := hid (And.intro (hB1.set (.string t)) ((hb1.setCell (p := ⟨b, 0, none⟩) (Nat.le_refl b) (.string t)))))
  go_ret2
  exact ⟨⟨0, by rw [HR.out.1]; rfl, fun _ => HR.out.2.1.symm, by decide, by decide⟩, by rw [HR.out.2.2, B_tx]; exact HG.out.1, HG.out.2⟩

set_option maxRecDepth 100000 in
set_option maxHeartbeats 4000000 in
theorem power_minus (b : Nat) (t : ByteArray) (hts : t.size ≤ 140737488355328) (w : World) (_hT : Tabs w) (_hbw : b < w.heap.size) (hTb : ∀ W, Below b w W → Tabs W) (hB : Boxed w b 49 (.string t)) (he : expB (tx t) = true) (h45 : hdB 45 (tx t).tail = true) :
    Calls Tryd.prog 23 #[.pointer (some ⟨b, 0, none⟩)] w (PowPost b (tx t) w) := by
  have hn := isNext_two b t hts 101 69 101 69 rfl rfl w hB
  change Calls _ _ _ _ fun e w' => e = .returned (.bool (expB (tx t))) ∧ Boxed w' b _ (.string (B (if expB (tx t) then (tx t).tail else tx t))) ∧ _ at hn
  rw [he] at hn
  obtain ⟨u, hu⟩ : ∃ u, B (tx t).tail = u := ⟨_, rfl⟩
  have hux : tx u = (tx t).tail := by rw [← hu, tx_B]
  have hus : u.size ≤ t.size := by rw [← hu]; exact size_tail t
  simp only [if_true, hu] at hn
  rw [← hux] at h45
  have hn2 := fun W h => isNext_one b u (by omega) 45 45 rfl W h
  rw [h45] at hn2
  obtain ⟨x, hx⟩ : ∃ x, B (tx u).tail = x := ⟨_, rfl⟩
  have hxx : tx x = (tx u).tail := by rw [← hx, tx_B]
  have hxs : x.size ≤ u.size := by rw [← hx]; exact size_tail u
  simp only [if_true, hx] at hn2
  have hpl : powL (tx t) = tx x := by unfold powL; rw [← hux, h45, hxx]; rfl
  have hd := fun W h => digits_calls b x (by omega) W h
  have hdl : (dgp (tx x)).length ≤ x.size := by rw [← txs_len]; exact dgp_le _
  obtain ⟨s, hs⟩ : ∃ s, B (dgp (tx x)) = s := ⟨_, rfl⟩
  have hsx : tx s = dgp (tx x) := by rw [← hs, tx_B]
  have hss : s.size = (dgp (tx x)).length := by rw [← txs_len, hsx]
  rw [hs] at hd
  have hat := fun W h => atoi_calls s (by omega) (by rw [hsx]; exact dgp_dgs _) W h
  have c0 := hB.cell
  by_cases h0 : dgp (tx x) = []
  · have hC : powC (tx t) = false := by unfold powC powD; rw [hpl, decide_eq_false (p := dgp (tx x) ≠ []) (fun e => e h0), Bool.and_false]
    have HR := hid (show powOk (tx t) = true ∧ powV (tx t) = 0 ∧ powR (tx t) = tx t by unfold powOk powV powR; rw [hC]; exact ⟨rfl, rfl, rfl⟩)
    obtain ⟨e1, e2⟩ := emp_of s (by rw [hss, h0]; rfl)
    have e3 : s.toList.isEmpty = true := by rw [e1]; rfl
    clear hC he h45  hu hux hx hxx hpl h0 hs hsx hss e2 hdl
    go_enter Tryd.func23, Tryd.ntmps23
    go_wp2_with fail
    refine hn.mono ?_
    rintro e w1 ⟨rfl, hB1, hb1⟩
    go_wp2_with fail
    refine (hn2 w1 hB1).mono ?_
    rintro e w2 ⟨rfl, hB2, hb2⟩
    have hb2' := hb1.trans hb2
    have hB3 := hB2
    have hb3' := hb2'
    go_wp2_with fail
    refine (hd w2 hB3).mono ?_
    rintro e w4 ⟨rfl, hB4, hb4⟩
    have hb4' := hb3'.trans hb4
    go_wp2_with fail
    refine (hat w4 (hTb w4 hb4')).mono ?_
    rintro e w5 ⟨⟨v, er, rfl, hvb, _⟩, hb5⟩
    have hB5 : Boxed w5 b 49 _ := (hb5.block b hB4.lt).trans hB4
    have z5 := hB5.frozen
    have c5 := hB5.cell
    have HG := hid (And.intro (hB5.set (.string t)) ((hb4'.trans (hb5.mono (by have := hB4.lt; omega))).setCell (p := ⟨b, 0, none⟩) (Nat.le_refl b) (.string t)))
    go_wp2
    go_ret2
    exact ⟨⟨0, by rw [HR.out.1]; rfl, fun _ => HR.out.2.1.symm, by decide, by decide⟩, by rw [HR.out.2.2, B_tx]; exact HG.out.1, HG.out.2⟩
  · have hC : powC (tx t) = true := by unfold powC powD; rw [hpl, he, decide_eq_true (p := dgp (tx x) ≠ []) h0]; rfl
    have HR := hid (show powOk (tx t) = decide (s.size ≤ 4) ∧ powV (tx t) = -(nv (dgp (tx x)) : Nat) ∧ powR (tx t) = (tx x).drop (dgp (tx x)).length by
      unfold powOk powV powR
      rw [hC, ← hux, h45]
      unfold powD
      rw [hpl, hss]
      exact ⟨rfl, rfl, rfl⟩)
    have hs0 : ¬ s.size = 0 := by rw [hss]; intro e; exact h0 (List.eq_nil_of_length_eq_zero e)
    obtain ⟨e1, e2⟩ := ne_of s hs0
    have HS := hid (And.intro hsx (And.intro hss hs0))
    clear hC he h45  hu hux hx hxx hpl h0 hs hsx hss hs0 hdl
    go_enter Tryd.func23, Tryd.ntmps23
    go_wp2_with fail
    refine hn.mono ?_
    rintro e w1 ⟨rfl, hB1, hb1⟩
    go_wp2_with fail
    refine (hn2 w1 hB1).mono ?_
    rintro e w2 ⟨rfl, hB2, hb2⟩
    have hb2' := hb1.trans hb2
    have hB3 := hB2
    have hb3' := hb2'
    go_wp2_with fail
    refine (hd w2 hB3).mono ?_
    rintro e w4 ⟨rfl, hB4, hb4⟩
    have hb4' := hb3'.trans hb4
    go_wp2_with fail
    refine (hat w4 (hTb w4 hb4')).mono ?_
    rintro e w5 ⟨⟨v, er, rfl, ⟨hv1, hv2⟩, hor⟩, hb5⟩
    have hB5 : Boxed w5 b 49 _ := (hb5.block b hB4.lt).trans hB4
    have hb5' : Below b w w5 := hb4'.trans (hb5.mono (by have := hB4.lt; omega))
    have hlen : (tx s).length = s.size := txs_len s
    rcases hor with ⟨rfl, hv⟩ | ⟨⟨ta, pa, rfl⟩, hno⟩
    · have HV := hid hv
      have hw1 : (-1 : Int) * v = -v := by omega
      by_cases h4 : s.size ≤ 4
      · have h4i : decide ((s.size : Int) ≤ 4) = true := decide_eq_true (by omega)
        have HD := hid (show decide (s.size ≤ 4) = true from decide_eq_true h4)
        clear hv hlen
        go_wp2
        go_ret2
        exact ⟨⟨-v, by rw [HR.out.1, HD.out]; rfl, fun _ => by rw [HR.out.2.1, HV.out, HS.out.1], by omega, by omega⟩, by rw [HR.out.2.2]; exact hB5, hb5'⟩
      · have h4i : decide ((s.size : Int) ≤ 4) = false := decide_eq_false (by omega)
        have HD := hid (show decide (s.size ≤ 4) = false from decide_eq_false h4)
        clear hv hlen
        go_wp2
        go_ret2
        exact ⟨⟨-v, by rw [HR.out.1, HD.out]; rfl, (fun h => by rw [HR.out.1, HD.out] at h; cases h), by omega, by omega⟩, by rw [HR.out.2.2]; exact hB5, hb5'⟩
    · have HD := hid (show decide (s.size ≤ 4) = false from decide_eq_false (by have := HS.out.2.2; omega))
      clear hno hlen
      go_wp2
      go_ret2
      exact ⟨⟨-v, by rw [HR.out.1, HD.out]; rfl, (fun h => by rw [HR.out.1, HD.out] at h; cases h), by omega, by omega⟩, by rw [HR.out.2.2]; exact hB5, hb5'⟩

set_option maxRecDepth 100000 in
set_option maxHeartbeats 4000000 in
theorem power_plus (b : Nat) (t : ByteArray) (hts : t.size ≤ 140737488355328) (w : World) (_hT : Tabs w) (_hbw : b < w.heap.size) (hTb : ∀ W, Below b w W → Tabs W) (hB : Boxed w b 49 (.string t)) (he : expB (tx t) = true) (h45 : hdB 45 (tx t).tail = false) (h43 : hdB 43 (tx t).tail = true) :
    Calls Tryd.prog 23 #[.pointer (some ⟨b, 0, none⟩)] w (PowPost b (tx t) w) := by
  have hn := isNext_two b t hts 101 69 101 69 rfl rfl w hB
  change Calls _ _ _ _ fun e w' => e = .returned (.bool (expB (tx t))) ∧ Boxed w' b _ (.string (B (if expB (tx t) then (tx t).tail else tx t))) ∧ _ at hn
  rw [he] at hn
  obtain ⟨u, hu⟩ : ∃ u, B (tx t).tail = u := ⟨_, rfl⟩
  have hux : tx u = (tx t).tail := by rw [← hu, tx_B]
  have hus : u.size ≤ t.size := by rw [← hu]; exact size_tail t
  simp only [if_true, hu] at hn
  rw [← hux] at h45 h43
  have hn2 := fun W h => isNext_one b u (by omega) 45 45 rfl W h
  rw [h45] at hn2
  simp only [Bool.false_eq_true, if_false, B_tx] at hn2
  have hn3 := fun W h => isNext_one b u (by omega) 43 43 rfl W h
  rw [h43] at hn3
  obtain ⟨x, hx⟩ : ∃ x, B (tx u).tail = x := ⟨_, rfl⟩
  have hxx : tx x = (tx u).tail := by rw [← hx, tx_B]
  have hxs : x.size ≤ u.size := by rw [← hx]; exact size_tail u
  simp only [if_true, hx] at hn3
  have hpl : powL (tx t) = tx x := by unfold powL; rw [← hux, h45, h43, hxx]; rfl
  have hd := fun W h => digits_calls b x (by omega) W h
  have hdl : (dgp (tx x)).length ≤ x.size := by rw [← txs_len]; exact dgp_le _
  obtain ⟨s, hs⟩ : ∃ s, B (dgp (tx x)) = s := ⟨_, rfl⟩
  have hsx : tx s = dgp (tx x) := by rw [← hs, tx_B]
  have hss : s.size = (dgp (tx x)).length := by rw [← txs_len, hsx]
  rw [hs] at hd
  have hat := fun W h => atoi_calls s (by omega) (by rw [hsx]; exact dgp_dgs _) W h
  have c0 := hB.cell
  by_cases h0 : dgp (tx x) = []
  · have hC : powC (tx t) = false := by unfold powC powD; rw [hpl, decide_eq_false (p := dgp (tx x) ≠ []) (fun e => e h0), Bool.and_false]
    have HR := hid (show powOk (tx t) = true ∧ powV (tx t) = 0 ∧ powR (tx t) = tx t by unfold powOk powV powR; rw [hC]; exact ⟨rfl, rfl, rfl⟩)
    obtain ⟨e1, e2⟩ := emp_of s (by rw [hss, h0]; rfl)
    have e3 : s.toList.isEmpty = true := by rw [e1]; rfl
    clear hC he h45 h43 hu hux hx hxx hpl h0 hs hsx hss e2 hdl
    go_enter Tryd.func23, Tryd.ntmps23
    go_wp2_with fail
    refine hn.mono ?_
    rintro e w1 ⟨rfl, hB1, hb1⟩
    go_wp2_with fail
    refine (hn2 w1 hB1).mono ?_
    rintro e w2 ⟨rfl, hB2, hb2⟩
    have hb2' := hb1.trans hb2
    go_wp2_with fail
    refine (hn3 w2 hB2).mono ?_
    rintro e w3 ⟨rfl, hB3, hb3⟩
    have hb3' := hb2'.trans hb3
    go_wp2_with fail
    refine (hd w3 hB3).mono ?_
    rintro e w4 ⟨rfl, hB4, hb4⟩
    have hb4' := hb3'.trans hb4
    go_wp2_with fail
    refine (hat w4 (hTb w4 hb4')).mono ?_
    rintro e w5 ⟨⟨v, er, rfl, hvb, _⟩, hb5⟩
    have hB5 : Boxed w5 b 49 _ := (hb5.block b hB4.lt).trans hB4
    have z5 := hB5.frozen
    have c5 := hB5.cell
    have HG := hid (And.intro (hB5.set (.string t)) ((hb4'.trans (hb5.mono (by have := hB4.lt; omega))).setCell (p := ⟨b, 0, none⟩) (Nat.le_refl b) (.string t)))
    go_wp2
    go_ret2
    exact ⟨⟨0, by rw [HR.out.1]; rfl, fun _ => HR.out.2.1.symm, by decide, by decide⟩, by rw [HR.out.2.2, B_tx]; exact HG.out.1, HG.out.2⟩
  · have hC : powC (tx t) = true := by unfold powC powD; rw [hpl, he, decide_eq_true (p := dgp (tx x) ≠ []) h0]; rfl
    have HR := hid (show powOk (tx t) = decide (s.size ≤ 4) ∧ powV (tx t) = (nv (dgp (tx x)) : Nat) ∧ powR (tx t) = (tx x).drop (dgp (tx x)).length by
      unfold powOk powV powR
      rw [hC, ← hux, h45]
      unfold powD
      rw [hpl, hss]
      exact ⟨rfl, rfl, rfl⟩)
    have hs0 : ¬ s.size = 0 := by rw [hss]; intro e; exact h0 (List.eq_nil_of_length_eq_zero e)
    obtain ⟨e1, e2⟩ := ne_of s hs0
    have HS := hid (And.intro hsx (And.intro hss hs0))
    clear hC he h45 h43 hu hux hx hxx hpl h0 hs hsx hss hs0 hdl
    go_enter Tryd.func23, Tryd.ntmps23
    go_wp2_with fail
    refine hn.mono ?_
    rintro e w1 ⟨rfl, hB1, hb1⟩
    go_wp2_with fail
    refine (hn2 w1 hB1).mono ?_
    rintro e w2 ⟨rfl, hB2, hb2⟩
    have hb2' := hb1.trans hb2
    go_wp2_with fail
    refine (hn3 w2 hB2).mono ?_
    rintro e w3 ⟨rfl, hB3, hb3⟩
    have hb3' := hb2'.trans hb3
    go_wp2_with fail
    refine (hd w3 hB3).mono ?_
    rintro e w4 ⟨rfl, hB4, hb4⟩
    have hb4' := hb3'.trans hb4
    go_wp2_with fail
    refine (hat w4 (hTb w4 hb4')).mono ?_
    rintro e w5 ⟨⟨v, er, rfl, ⟨hv1, hv2⟩, hor⟩, hb5⟩
    have hB5 : Boxed w5 b 49 _ := (hb5.block b hB4.lt).trans hB4
    have hb5' : Below b w w5 := hb4'.trans (hb5.mono (by have := hB4.lt; omega))
    have hlen : (tx s).length = s.size := txs_len s
    rcases hor with ⟨rfl, hv⟩ | ⟨⟨ta, pa, rfl⟩, hno⟩
    · have HV := hid hv
      have hw1 : (1 : Int) * v = v := by omega
      by_cases h4 : s.size ≤ 4
      · have h4i : decide ((s.size : Int) ≤ 4) = true := decide_eq_true (by omega)
        have HD := hid (show decide (s.size ≤ 4) = true from decide_eq_true h4)
        clear hv hlen
        go_wp2
        go_ret2
        exact ⟨⟨v, by rw [HR.out.1, HD.out]; rfl, fun _ => by rw [HR.out.2.1, HV.out, HS.out.1], by omega, by omega⟩, by rw [HR.out.2.2]; exact hB5, hb5'⟩
      · have h4i : decide ((s.size : Int) ≤ 4) = false := decide_eq_false (by omega)
        have HD := hid (show decide (s.size ≤ 4) = false from decide_eq_false h4)
        clear hv hlen
        go_wp2
        go_ret2
        exact ⟨⟨v, by rw [HR.out.1, HD.out]; rfl, (fun h => by rw [HR.out.1, HD.out] at h; cases h), by omega, by omega⟩, by rw [HR.out.2.2]; exact hB5, hb5'⟩
    · have HD := hid (show decide (s.size ≤ 4) = false from decide_eq_false (by have := HS.out.2.2; omega))
      clear hno hlen
      go_wp2
      go_ret2
      exact ⟨⟨v, by rw [HR.out.1, HD.out]; rfl, (fun h => by rw [HR.out.1, HD.out] at h; cases h), by omega, by omega⟩, by rw [HR.out.2.2]; exact hB5, hb5'⟩

set_option maxRecDepth 100000 in
set_option maxHeartbeats 4000000 in
theorem power_bare (b : Nat) (t : ByteArray) (hts : t.size ≤ 140737488355328) (w : World) (_hT : Tabs w) (_hbw : b < w.heap.size) (hTb : ∀ W, Below b w W → Tabs W) (hB : Boxed w b 49 (.string t)) (he : expB (tx t) = true) (h45 : hdB 45 (tx t).tail = false) (h43 : hdB 43 (tx t).tail = false) :
    Calls Tryd.prog 23 #[.pointer (some ⟨b, 0, none⟩)] w (PowPost b (tx t) w) := by
  have hn := isNext_two b t hts 101 69 101 69 rfl rfl w hB
  change Calls _ _ _ _ fun e w' => e = .returned (.bool (expB (tx t))) ∧ Boxed w' b _ (.string (B (if expB (tx t) then (tx t).tail else tx t))) ∧ _ at hn
  rw [he] at hn
  obtain ⟨u, hu⟩ : ∃ u, B (tx t).tail = u := ⟨_, rfl⟩
  have hux : tx u = (tx t).tail := by rw [← hu, tx_B]
  have hus : u.size ≤ t.size := by rw [← hu]; exact size_tail t
  simp only [if_true, hu] at hn
  rw [← hux] at h45 h43
  have hn2 := fun W h => isNext_one b u (by omega) 45 45 rfl W h
  rw [h45] at hn2
  simp only [Bool.false_eq_true, if_false, B_tx] at hn2
  have hn3 := fun W h => isNext_one b u (by omega) 43 43 rfl W h
  rw [h43] at hn3
  simp only [Bool.false_eq_true, if_false, B_tx] at hn3
  obtain ⟨x, hx⟩ : ∃ x, u = x := ⟨_, rfl⟩
  have hxs : x.size ≤ u.size := by rw [hx]; exact Nat.le_refl _
  rw [hx] at hn hn2 hn3 hux h45 h43
  have hpl : powL (tx t) = tx x := by unfold powL; rw [← hux, h45, h43]; rfl
  have hd := fun W h => digits_calls b x (by omega) W h
  have hdl : (dgp (tx x)).length ≤ x.size := by rw [← txs_len]; exact dgp_le _
  obtain ⟨s, hs⟩ : ∃ s, B (dgp (tx x)) = s := ⟨_, rfl⟩
  have hsx : tx s = dgp (tx x) := by rw [← hs, tx_B]
  have hss : s.size = (dgp (tx x)).length := by rw [← txs_len, hsx]
  rw [hs] at hd
  have hat := fun W h => atoi_calls s (by omega) (by rw [hsx]; exact dgp_dgs _) W h
  have c0 := hB.cell
  by_cases h0 : dgp (tx x) = []
  · have hC : powC (tx t) = false := by unfold powC powD; rw [hpl, decide_eq_false (p := dgp (tx x) ≠ []) (fun e => e h0), Bool.and_false]
    have HR := hid (show powOk (tx t) = true ∧ powV (tx t) = 0 ∧ powR (tx t) = tx t by unfold powOk powV powR; rw [hC]; exact ⟨rfl, rfl, rfl⟩)
    obtain ⟨e1, e2⟩ := emp_of s (by rw [hss, h0]; rfl)
    have e3 : s.toList.isEmpty = true := by rw [e1]; rfl
    clear hC he h45 h43 hu hux hx  hpl h0 hs hsx hss e2 hdl
    go_enter Tryd.func23, Tryd.ntmps23
    go_wp2_with fail
    refine hn.mono ?_
    rintro e w1 ⟨rfl, hB1, hb1⟩
    go_wp2_with fail
    refine (hn2 w1 hB1).mono ?_
    rintro e w2 ⟨rfl, hB2, hb2⟩
    have hb2' := hb1.trans hb2
    go_wp2_with fail
    refine (hn3 w2 hB2).mono ?_
    rintro e w3 ⟨rfl, hB3, hb3⟩
    have hb3' := hb2'.trans hb3
    go_wp2_with fail
    refine (hd w3 hB3).mono ?_
    rintro e w4 ⟨rfl, hB4, hb4⟩
    have hb4' := hb3'.trans hb4
    go_wp2_with fail
    refine (hat w4 (hTb w4 hb4')).mono ?_
    rintro e w5 ⟨⟨v, er, rfl, hvb, _⟩, hb5⟩
    have hB5 : Boxed w5 b 49 _ := (hb5.block b hB4.lt).trans hB4
    have z5 := hB5.frozen
    have c5 := hB5.cell
    have HG := hid (And.intro (hB5.set (.string t)) ((hb4'.trans (hb5.mono (by have := hB4.lt; omega))).setCell (p := ⟨b, 0, none⟩) (Nat.le_refl b) (.string t)))
    go_wp2
    go_ret2
    exact ⟨⟨0, by rw [HR.out.1]; rfl, fun _ => HR.out.2.1.symm, by decide, by decide⟩, by rw [HR.out.2.2, B_tx]; exact HG.out.1, HG.out.2⟩
  · have hC : powC (tx t) = true := by unfold powC powD; rw [hpl, he, decide_eq_true (p := dgp (tx x) ≠ []) h0]; rfl
    have HR := hid (show powOk (tx t) = decide (s.size ≤ 4) ∧ powV (tx t) = (nv (dgp (tx x)) : Nat) ∧ powR (tx t) = (tx x).drop (dgp (tx x)).length by
      unfold powOk powV powR
      rw [hC, ← hux, h45]
      unfold powD
      rw [hpl, hss]
      exact ⟨rfl, rfl, rfl⟩)
    have hs0 : ¬ s.size = 0 := by rw [hss]; intro e; exact h0 (List.eq_nil_of_length_eq_zero e)
    obtain ⟨e1, e2⟩ := ne_of s hs0
    have HS := hid (And.intro hsx (And.intro hss hs0))
    clear hC he h45 h43 hu hux hx  hpl h0 hs hsx hss hs0 hdl
    go_enter Tryd.func23, Tryd.ntmps23
    go_wp2_with fail
    refine hn.mono ?_
    rintro e w1 ⟨rfl, hB1, hb1⟩
    go_wp2_with fail
    refine (hn2 w1 hB1).mono ?_
    rintro e w2 ⟨rfl, hB2, hb2⟩
    have hb2' := hb1.trans hb2
    go_wp2_with fail
    refine (hn3 w2 hB2).mono ?_
    rintro e w3 ⟨rfl, hB3, hb3⟩
    have hb3' := hb2'.trans hb3
    go_wp2_with fail
    refine (hd w3 hB3).mono ?_
    rintro e w4 ⟨rfl, hB4, hb4⟩
    have hb4' := hb3'.trans hb4
    go_wp2_with fail
    refine (hat w4 (hTb w4 hb4')).mono ?_
    rintro e w5 ⟨⟨v, er, rfl, ⟨hv1, hv2⟩, hor⟩, hb5⟩
    have hB5 : Boxed w5 b 49 _ := (hb5.block b hB4.lt).trans hB4
    have hb5' : Below b w w5 := hb4'.trans (hb5.mono (by have := hB4.lt; omega))
    have hlen : (tx s).length = s.size := txs_len s
    rcases hor with ⟨rfl, hv⟩ | ⟨⟨ta, pa, rfl⟩, hno⟩
    · have HV := hid hv
      have hw1 : (1 : Int) * v = v := by omega
      by_cases h4 : s.size ≤ 4
      · have h4i : decide ((s.size : Int) ≤ 4) = true := decide_eq_true (by omega)
        have HD := hid (show decide (s.size ≤ 4) = true from decide_eq_true h4)
        clear hv hlen
        go_wp2
        go_ret2
        exact ⟨⟨v, by rw [HR.out.1, HD.out]; rfl, fun _ => by rw [HR.out.2.1, HV.out, HS.out.1], by omega, by omega⟩, by rw [HR.out.2.2]; exact hB5, hb5'⟩
      · have h4i : decide ((s.size : Int) ≤ 4) = false := decide_eq_false (by omega)
        have HD := hid (show decide (s.size ≤ 4) = false from decide_eq_false h4)
        clear hv hlen
        go_wp2
        go_ret2
        exact ⟨⟨v, by rw [HR.out.1, HD.out]; rfl, (fun h => by rw [HR.out.1, HD.out] at h; cases h), by omega, by omega⟩, by rw [HR.out.2.2]; exact hB5, hb5'⟩
    · have HD := hid (show decide (s.size ≤ 4) = false from decide_eq_false (by have := HS.out.2.2; omega))
      clear hno hlen
      go_wp2
      go_ret2
      exact ⟨⟨v, by rw [HR.out.1, HD.out]; rfl, (fun h => by rw [HR.out.1, HD.out] at h; cases h), by omega, by omega⟩, by rw [HR.out.2.2]; exact hB5, hb5'⟩

theorem power_calls (b : Nat) (t : ByteArray) (hts : t.size ≤ 140737488355328) (w : World) (hT : Tabs w) (hTb : ∀ W, Below b w W → Tabs W) (hB : Boxed w b 49 (.string t)) :
    Calls Tryd.prog 23 #[.pointer (some ⟨b, 0, none⟩)] w (PowPost b (tx t) w) := by
  cases he : expB (tx t) with
  | false => exact power_none b t hts w hB he
  | true =>
    cases h45 : hdB 45 (tx t).tail with
    | true => exact power_minus b t hts w hT hB.lt hTb hB he h45
    | false =>
      cases h43 : hdB 43 (tx t).tail with
      | true => exact power_plus b t hts w hT hB.lt hTb hB he h45 h43
      | false => exact power_bare b t hts w hT hB.lt hTb hB he h45 h43
end Go.Proofs.YtbopikeoaokdpaaDoor
