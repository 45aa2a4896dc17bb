/- The statements NatOrder and NatTurns, walked. -/
import Derived.Test.YtdppcpiepippoaaDoorLawB
import Derived.Test.YtdppcpiepippoaaDoorNatS
namespace Go.Proofs.YtdppcpiepippoaaDoor
open Go.RowKit Go.Shelf
attribute [local go_sem] Oper.semAt_some

theorem rt_inj {s t : ByteArray} (hs : isRt (tx s) = true) (ht : isRt (tx t) = true) (h : nv (tx s) = nv (tx t)) : s = t := by
  rw [(rt_out hs).1, (rt_out ht).1, h]

theorem dec_0 : Lib.decDigits 0 = [48] := by rw [dec_small (by decide)]; rfl

/-- what NatOrder reads. -/
theorem order_plain (s t : ByteArray) :
    (cmpE s t = 10 ∧ cmpR s t = 0 ∧ cmpE t s = 10 ∧ subE s t = 10) ∨
    (cmpE s t = 0 ∧ cmpE t s = 0 ∧ ((cmpR s t = -1 ∧ cmpR t s = 1 ∧ subE s t = 10 ∧ (s.toList == t.toList) = false) ∨ (cmpR s t = 1 ∧ cmpR t s = -1 ∧ subE s t = 0 ∧ (s.toList == t.toList) = false) ∨ (s = t ∧ cmpR s t = 0 ∧ cmpR t s = 0 ∧ subE s t = 0 ∧ B (subS s t) = ⟨#[48]⟩))) := by
  have hcomm : both t s = both s t := Bool.and_comm _ _
  cases h : both s t with
  | false =>
    refine .inl ⟨?_, ?_, ?_, ?_⟩
    · unfold cmpE; rw [h]; rfl
    · unfold cmpR; rw [h]; rfl
    · unfold cmpE; rw [hcomm, h]; rfl
    · unfold subE; rw [h]; rfl
  | true =>
    obtain ⟨hs, ht⟩ := both_rt h
    refine .inr ⟨by unfold cmpE; rw [h]; rfl, by unfold cmpE; rw [hcomm, h]; rfl, ?_⟩
    unfold cmpR subE
    rw [hcomm, h]
    simp only [if_true, Bool.true_and]
    have hne : nv (tx s) ≠ nv (tx t) → (s.toList == t.toList) = false := fun hn => by
      rw [beq_eq_false_iff_ne, Lib.toList_data, Lib.toList_data]
      intro e
      exact hn (by unfold tx; rw [e])
    rcases Nat.lt_trichotomy (nv (tx s)) (nv (tx t)) with hlt | heq | hgt
    · refine .inl ⟨cmpI_neg hlt, ?_, ?_, hne (by omega)⟩
      · unfold cmpI; rw [if_neg (by omega), if_pos (by omega)]
      · rw [decide_eq_false (by omega)]; rfl
    · have he := rt_inj hs ht heq
      subst he
      refine .inr (.inr ⟨rfl, ?_, ?_, ?_, ?_⟩)
      · unfold cmpI; rw [if_neg (by omega), if_neg (by omega)]
      · unfold cmpI; rw [if_neg (by omega), if_neg (by omega)]
      · rw [decide_eq_true (by omega)]; rfl
      · unfold subS; rw [h, decide_eq_true (by omega), Nat.sub_self, dec_0]; rfl
    · refine .inr (.inl ⟨?_, cmpI_neg hgt, ?_, hne (by omega)⟩)
      · unfold cmpI; rw [if_neg (by omega), if_pos (by omega)]
      · rw [decide_eq_true (by omega)]; rfl

set_option maxRecDepth 100000 in
set_option maxHeartbeats 4000000 in
theorem order_law (a b : ByteArray) (w : World) (hT : Tabs w) :
    Calls Tryd.prog 7 #[.string a, .string b] w fun e w' => e = .returned (.bool true) ∧ Below w.heap.size w w' := by
  have hts := pre_size 410 a
  have hus := pre_size 410 b
  have hcut1 := cut_calls a
  have hcut2 := cut_calls b
  obtain ⟨t, ht⟩ : ∃ t, pre 410 a = t := ⟨_, rfl⟩
  obtain ⟨u, hu⟩ : ∃ u, pre 410 b = u := ⟨_, rfl⟩
  rw [ht] at hts hcut1
  rw [hu] at hus hcut2
  have p := order_plain t u
  have c1 := natCompare_calls t u (by omega) (by omega)
  have c2 := natCompare_calls u t (by omega) (by omega)
  have c3 := natSub_calls t u (by omega) (by omega)
  change ∀ w, Tabs w → Calls _ _ _ _ fun e w' => e = .returned (.tuple #[.string (B _), _]) ∧ _ at c3
  obtain ⟨d, hd⟩ : ∃ d, B (subS t u) = d := ⟨_, rfl⟩
  obtain ⟨z1, hz1⟩ : ∃ z, cmpR t u = z := ⟨_, rfl⟩
  obtain ⟨z2, hz2⟩ : ∃ z, cmpR u t = z := ⟨_, rfl⟩
  obtain ⟨e1, he1⟩ : ∃ z, cmpE t u = z := ⟨_, rfl⟩
  obtain ⟨e2, he2⟩ : ∃ z, cmpE u t = z := ⟨_, rfl⟩
  obtain ⟨e3, he3⟩ : ∃ z, subE t u = z := ⟨_, rfl⟩
  rw [hz1, he1] at c1
  rw [hz2, he2] at c2
  rw [hd, he3] at c3
  rw [hz1, hz2, he1, he2, he3, hd] at p
  clear hz1 hz2 he1 he2 he3 hd hts hus ht hu
  rcases p with ⟨rfl, rfl, rfl, rfl⟩ | ⟨rfl, rfl, ⟨rfl, rfl, rfl, hne⟩ | ⟨rfl, rfl, rfl, hne⟩ | ⟨rfl, rfl, rfl, rfl, rfl⟩⟩
  all_goals (
    go_enter Tryd.func7, Tryd.ntmps7
    go_wp2_with fail
    refine (shown_calls w hT).mono ?_
    rintro e w1 ⟨rfl, hb1⟩
    have hB1 := hb1
    have hT1 := hT.below hB1
    go_wp2_with fail
    refine (hcut1 w1).mono ?_
    rintro e v2 ⟨rfl, rfl⟩
    go_wp2_with fail
    refine (hcut2 w1).mono ?_
    rintro e v3 ⟨rfl, rfl⟩
    go_wp2_with fail
    refine (c1 w1 hT1).mono ?_
    rintro e w4 ⟨rfl, hb4⟩
    have hB4 := hB1.trans (hb4.mono hB1.size)
    have hT4 := hT.below hB4
    go_wp2_with fail
    refine (c2 w4 hT4).mono ?_
    rintro e w5 ⟨rfl, hb5⟩
    have hB5 := hB4.trans (hb5.mono hB4.size)
    have hT5 := hT.below hB5
    go_wp2_with fail
    refine (c3 w5 hT5).mono ?_
    rintro e w6 ⟨rfl, hb6⟩
    have hB6 := hB5.trans (hb6.mono hB5.size)
    have hT6 := hT.below hB6
    go_wp2
    go_ret
    exact ⟨rfl, hB6⟩)

/-- what NatTurns reads: of a sum. -/
theorem turns_one (s t : ByteArray) : (addE s t = 0 ∧ (B (addS s t)).size ≤ 400 ∧ subE (B (addS s t)) t = 0 ∧ B (subS (B (addS s t)) t) = s) ∨ ((addE s t = 10 ∨ addE s t = 11) ∧ (B (addS s t)).size ≤ 400) := by
  cases h : both s t with
  | false =>
    refine .inr ⟨.inl ?_, ?_⟩
    · unfold addE; rw [h]; rfl
    · unfold addS; rw [h, if_neg (by decide), size_B]; simp
  | true =>
    obtain ⟨hs, ht⟩ := both_rt h
    have hE : addE s t = fitE (nv (tx s) + nv (tx t)) := by unfold addE; rw [h]; rfl
    have hS : addS s t = fitS (nv (tx s) + nv (tx t)) := by unfold addS; rw [h]; rfl
    by_cases hl : Lib.nDigits (nv (tx s) + nv (tx t)) ≤ 400
    · obtain ⟨f1, f2⟩ := fit_ok hl
      have hb : both (B (Lib.decDigits (nv (tx s) + nv (tx t)))) t = true := by unfold both; rw [tx_B, rt_dec hl, ht]; rfl
      refine .inl ⟨by rw [hE, f2], by rw [hS, f1, size_B, Lib.decDigits_length]; exact hl, ?_, ?_⟩
      · unfold subE; rw [hS, f1, hb, tx_B, nv_dec, decide_eq_true (by omega)]; rfl
      · unfold subS; rw [hS, f1, hb, tx_B, nv_dec, decide_eq_true (by omega), Nat.add_sub_cancel]; exact (rt_out hs).1.symm
    · obtain ⟨f1, f2⟩ := fit_no hl
      exact .inr ⟨.inr (by rw [hE, f2]), by rw [hS, f1, size_B]; decide⟩

/-- of a product. -/
theorem turns_two (s : ByteArray) (b : Nat) (hb : b < 4294967296) :
    (mulE s (B (Lib.decDigits b)) = 0 ∧ (B (mulS s (B (Lib.decDigits b)))).size ≤ 400 ∧ (b = 0 ∨ (¬ b = 0 ∧ divE (B (mulS s (B (Lib.decDigits b)))) b = 0 ∧ B (divQ (B (mulS s (B (Lib.decDigits b)))) b) = s ∧ divR (B (mulS s (B (Lib.decDigits b)))) b = 0))) ∨
    ((mulE s (B (Lib.decDigits b)) = 10 ∨ mulE s (B (Lib.decDigits b)) = 11) ∧ (B (mulS s (B (Lib.decDigits b)))).size ≤ 400) := by
  have hbd := dig_u32 hb
  cases hs : isRt (tx s) with
  | false =>
    have h : both s (B (Lib.decDigits b)) = false := by unfold both; rw [hs]; rfl
    refine .inr ⟨.inl ?_, ?_⟩
    · unfold mulE; rw [h]; rfl
    · unfold mulS; rw [h, if_neg (by decide), size_B]; simp
  | true =>
    have h : both s (B (Lib.decDigits b)) = true := by unfold both; rw [hs, tx_B, rt_dec hbd]; rfl
    have hE : mulE s (B (Lib.decDigits b)) = fitE (nv (tx s) * b) := by unfold mulE; rw [h, tx_B, nv_dec]; rfl
    have hS : mulS s (B (Lib.decDigits b)) = fitS (nv (tx s) * b) := by unfold mulS; rw [h, tx_B, nv_dec]; rfl
    rw [hE, hS]
    by_cases hl : Lib.nDigits (nv (tx s) * b) ≤ 400
    · obtain ⟨f1, f2⟩ := fit_ok hl
      rw [f1, f2]
      refine .inl ⟨rfl, by rw [size_B, Lib.decDigits_length]; exact hl, ?_⟩
      by_cases hb0 : b = 0
      · exact .inl hb0
      · have hg : (isRt (tx (B (Lib.decDigits (nv (tx s) * b)))) && decide (b ≠ 0)) = true := by rw [tx_B, rt_dec hl, decide_eq_true hb0]; rfl
        refine .inr ⟨hb0, ?_, ?_, ?_⟩
        · unfold divE; rw [hg]; rfl
        · unfold divQ; rw [hg, tx_B, nv_dec, Nat.mul_div_cancel _ (by omega)]; exact (rt_out hs).1.symm
        · unfold divR; rw [hg, tx_B, nv_dec, Nat.mul_mod_left]; rfl
    · obtain ⟨f1, f2⟩ := fit_no hl
      rw [f1, f2]
      exact .inr ⟨.inr rfl, by rw [size_B]; decide⟩

set_option maxRecDepth 100000 in
set_option maxHeartbeats 8000000 in
theorem turns_law (a b : ByteArray) (n : Nat) (hn : n < 4294967296) (w : World) (hT : Tabs w) :
    Calls Tryd.prog 8 #[.string a, .string b, .int .u32 n] w fun e w' => e = .returned (.bool true) ∧ Below w.heap.size w w' := by
  have hts := pre_size 410 a
  have hus := pre_size 410 b
  have hcut1 := cut_calls a
  have hcut2 := cut_calls b
  obtain ⟨t, ht⟩ : ∃ t, pre 410 a = t := ⟨_, rfl⟩
  obtain ⟨u, hu⟩ : ∃ u, pre 410 b = u := ⟨_, rfl⟩
  rw [ht] at hts hcut1
  rw [hu] at hus hcut2
  have p1 := turns_one t u
  have p2 := turns_two t n hn
  have hwn : IntKind.u64.wrap (n : Int) = (n : Int) := IntWalk.u64_in _ (by omega)
  have c1 := natAdd_calls t u (by omega) (by omega)
  have hbd := dig_u32 hn
  have c3 := fun w h => natOf_calls n (by omega) w h
  change ∀ w, Tabs w → Calls _ _ _ _ fun e w' => e = .returned (.tuple #[.string (B _), _]) ∧ _ at c1
  change ∀ w, Tabs w → Calls _ _ _ _ fun e w' => e = .returned (.string (B _)) ∧ _ at c3
  obtain ⟨o, ho⟩ : ∃ o, B (Lib.decDigits n) = o := ⟨_, rfl⟩
  have hos : o.size ≤ 400 := by rw [← ho, size_B, Lib.decDigits_length]; exact hbd
  rw [ho] at p2 c3
  have c4 := natMul_calls t o (by omega) (by omega)
  change ∀ w, Tabs w → Calls _ _ _ _ fun e w' => e = .returned (.tuple #[.string (B _), _]) ∧ _ at c4
  obtain ⟨c, hc⟩ : ∃ c, B (addS t u) = c := ⟨_, rfl⟩
  obtain ⟨g, hg⟩ : ∃ g, B (mulS t o) = g := ⟨_, rfl⟩
  rw [hc] at p1 c1
  rw [hg] at p2 c4
  have hcs : c.size ≤ 400 := by rcases p1 with h | h; exact h.2.1; exact h.2
  have hgs : g.size ≤ 400 := by rcases p2 with h | h; exact h.2.1; exact h.2
  have c2 := natSub_calls c u (by omega) (by omega)
  have c5 := natDiv_calls g n hn (by omega)
  change ∀ w, Tabs w → Calls _ _ _ _ fun e w' => e = .returned (.tuple #[.string (B _), _]) ∧ _ at c2
  change ∀ w, Tabs w → Calls _ _ _ _ fun e w' => e = .returned (.tuple #[.string (B _), _, _]) ∧ _ at c5
  obtain ⟨d, hd⟩ : ∃ d, B (subS c u) = d := ⟨_, rfl⟩
  obtain ⟨i, hi⟩ : ∃ i, B (divQ g n) = i := ⟨_, rfl⟩
  obtain ⟨r, hr⟩ : ∃ r, divR g n = r := ⟨_, rfl⟩
  obtain ⟨e1, he1⟩ : ∃ z, addE t u = z := ⟨_, rfl⟩
  obtain ⟨e2, he2⟩ : ∃ z, subE c u = z := ⟨_, rfl⟩
  obtain ⟨e3, he3⟩ : ∃ z, mulE t o = z := ⟨_, rfl⟩
  obtain ⟨e4, he4⟩ : ∃ z, divE g n = z := ⟨_, rfl⟩
  rw [he1] at p1 c1
  rw [he2, hd] at p1 c2
  rw [he3] at p2 c4
  rw [he4, hi, hr] at p2 c5
  clear he1 he2 he3 he4 hd hi hr hc hg ho hos hcs hgs hbd hts hus ht hu
  rcases p1 with ⟨rfl, _, rfl, rfl⟩ | ⟨rfl | rfl, _⟩
  all_goals rcases p2 with ⟨rfl, _, rfl | ⟨hn0, rfl, rfl, rfl⟩⟩ | ⟨rfl | rfl, _⟩
  all_goals (
    try (have hn1 : ((n : Int) == 0) = false := by rw [beq_eq_false_iff_ne]; omega)
    go_enter Tryd.func8, Tryd.ntmps8
    go_wp2_with fail
    refine (shown_calls w hT).mono ?_
    rintro e w1 ⟨rfl, hb1⟩
    have hB1 := hb1
    have hT1 := hT.below hB1
    go_wp2_with fail
    refine (hcut1 w1).mono ?_
    rintro e v2 ⟨rfl, rfl⟩
    go_wp2_with fail
    refine (hcut2 w1).mono ?_
    rintro e v3 ⟨rfl, rfl⟩
    go_wp2_with fail
    refine (c1 w1 hT1).mono ?_
    rintro e w4 ⟨rfl, hb4⟩
    have hB4 := hB1.trans (hb4.mono hB1.size)
    have hT4 := hT.below hB4
    go_wp2_with fail
    refine (c2 w4 hT4).mono ?_
    rintro e w5 ⟨rfl, hb5⟩
    have hB5 := hB4.trans (hb5.mono hB4.size)
    have hT5 := hT.below hB5
    go_wp2_with fail
    refine (c3 w5 hT5).mono ?_
    rintro e w6 ⟨rfl, hb6⟩
    have hB6 := hB5.trans (hb6.mono hB5.size)
    have hT6 := hT.below hB6
    go_wp2_with fail
    refine (c4 w6 hT6).mono ?_
    rintro e w7 ⟨rfl, hb7⟩
    have hB7 := hB6.trans (hb7.mono hB6.size)
    have hT7 := hT.below hB7
    go_wp2_with fail
    refine (c5 w7 hT7).mono ?_
    rintro e w8 ⟨rfl, hb8⟩
    have hB8 := hB7.trans (hb8.mono hB7.size)
    have hT8 := hT.below hB8
    go_wp2
    go_ret
    exact ⟨rfl, hB8⟩)
end Go.Proofs.YtdppcpiepippoaaDoor
