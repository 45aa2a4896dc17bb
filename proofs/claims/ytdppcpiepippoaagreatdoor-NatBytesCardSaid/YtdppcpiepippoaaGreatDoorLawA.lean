/- The statements' own helpers: shown, cut. -/
import Derived.Test.YtdppcpiepippoaaGreatDoorNatN
namespace Go.Proofs.YtdppcpiepippoaaGreatDoor
open Go.RowKit Go.Shelf
attribute [local go_sem] Oper.semAt_some

theorem dd1 (u : Nat) (h : u < 10) : Lib.decDigits u = [UInt8.ofNat (48 + u)] := dec_small h
theorem dec_1000 : Lib.decDigits 1000 = [49, 48, 48, 48] := by
  rw [dec_big (by decide), dec_big (by decide), dec_big (by decide), dec_small (by decide)]; rfl
theorem dec_3 : Lib.decDigits 3 = [51] := by rw [dec_small (by decide)]; rfl
theorem dec_1024 : Lib.decDigits 1024 = [49, 48, 50, 52] := by
  rw [dec_big (by decide), dec_big (by decide), dec_big (by decide), dec_small (by decide)]; rfl

theorem fit_of {n : Nat} {l : List UInt8} (h : Lib.decDigits n = l) (hl : l.length ≤ 400) : fitS n = l ∧ fitE n = 0 := by
  have h2 : Lib.nDigits n ≤ 400 := by rw [← Lib.decDigits_length, h]; exact hl
  exact ⟨by unfold fitS; rw [if_pos h2, h], by unfold fitE; rw [if_pos h2]⟩

theorem shown_1 : addS ⟨#[57, 57, 57]⟩ ⟨#[49]⟩ = [49, 48, 48, 48] ∧ addE ⟨#[57, 57, 57]⟩ ⟨#[49]⟩ = 0 := by
  have h := fit_of dec_1000 (by decide)
  have hb : both ⟨#[57, 57, 57]⟩ ⟨#[49]⟩ = true := by decide
  have hn : nv (tx ⟨#[57, 57, 57]⟩) + nv (tx ⟨#[49]⟩) = 1000 := by decide
  unfold addS addE
  rw [hb, hn]
  exact h
theorem shown_2 : divQ ⟨#[55]⟩ 2 = [51] ∧ divR ⟨#[55]⟩ 2 = 1 ∧ divE ⟨#[55]⟩ 2 = 0 := by
  have hb : (isRt (tx ⟨#[55]⟩) && decide (2 ≠ 0)) = true := by decide
  have hn : nv (tx ⟨#[55]⟩) = 7 := by decide
  unfold divQ divR divE
  rw [hb, hn]
  exact ⟨dec_3, rfl, rfl⟩
theorem shown_3 : powS 2 10 = [49, 48, 50, 52] ∧ powE 2 10 = 0 := by
  have h := fit_of dec_1024 (by decide)
  unfold powS powE
  rw [if_pos (by decide), if_pos (by decide), show (2 : Nat) ^ (10 : Int).toNat = 1024 from by decide]
  exact h
theorem shown_4 : bytS ⟨#[50, 53, 54]⟩ = [1, 0] ∧ bytE ⟨#[50, 53, 54]⟩ = 0 := by
  have hb : isRt (tx ⟨#[50, 53, 54]⟩) = true := by decide
  have hn : nv (tx ⟨#[50, 53, 54]⟩) = 256 := by decide
  unfold bytS bytE bytesL
  rw [hb, hn, bdig_pos (by decide), bdig_pos (by decide), show 256 / 256 / 256 = 0 from rfl, bdig_zero]
  exact ⟨rfl, rfl⟩
theorem shown_5 : addE ⟨#[48, 49]⟩ ⟨#[49]⟩ = 10 := by
  have hb : both ⟨#[48, 49]⟩ ⟨#[49]⟩ = false := by decide
  unfold addE
  rw [hb]
  rfl

set_option maxRecDepth 100000 in
theorem shown_calls (w : World) (hT : Tabs w) :
    Calls Tryz.prog 5 #[] w fun e w' => e = .returned (.bool true) ∧ Below w.heap.size w w' := by
  have hprog : Tryz.prog.follows .mixedOrders = true := by kernel_rfl
  go_enter Tryz.func5, Tryz.ntmps5
  go_wp2_with fail
  refine (natAdd_calls _ _ (by decide) (by decide) w hT).mono ?_
  rw [shown_1.1, shown_1.2]
  rintro e w1 ⟨rfl, hb1⟩
  have hT1 := hT.below hb1
  go_wp2_with fail
  refine (natDiv_calls _ 2 (by decide) (by decide) w1 hT1).mono ?_
  rw [shown_2.1, shown_2.2.1, shown_2.2.2]
  rintro e w2 ⟨rfl, hb2⟩
  have hT2 := hT1.below hb2
  go_wp2_with fail
  refine (natPower_calls 2 10 (by decide) w2 hT2).mono ?_
  rw [shown_3.1, shown_3.2]
  rintro e w3 ⟨rfl, hb3⟩
  have hT3 := hT2.below hb3
  go_wp2_with fail
  refine (natBytes_calls _ (by decide) w3 hT3).mono ?_
  rw [shown_4.1, shown_4.2]
  rintro e w4 ⟨rfl, hb4⟩
  have hT4 := hT3.below hb4
  go_wp2_with fail
  refine (natAdd_calls _ _ (by decide) (by decide) w4 hT4).mono ?_
  rw [shown_5]
  rintro e w5 ⟨rfl, hb5⟩
  go_wp2
  go_ret
  have s1 := hb1.size
  have s2 := Nat.le_trans s1 hb2.size
  have s3 := Nat.le_trans s2 hb3.size
  have s4 := Nat.le_trans s3 hb4.size
  exact ⟨rfl, hb1.trans ((hb2.mono s1).trans ((hb3.mono s2).trans ((hb4.mono s3).trans (hb5.mono s4))))⟩

/-- a text's first letters. -/
def pre (k : Nat) (s : ByteArray) : ByteArray := s.extract 0 (min s.size k)
theorem pre_tx (k : Nat) (s : ByteArray) : tx (pre k s) = (tx s).take (min s.size k) := extract_take s _
theorem pre_size (k : Nat) (s : ByteArray) : (pre k s).size ≤ k := by
  rw [← len_str, show (pre k s).data.toList = tx (pre k s) from rfl, pre_tx, List.length_take]
  omega

theorem cut_calls (s : ByteArray) (w : World) :
    Calls Tryz.prog 6 #[.string s] w fun e w' => e = .returned (.string (pre 410 s)) ∧ w = w' := by
  obtain ⟨t, ht⟩ : ∃ t, pre 410 s = t := ⟨_, rfl⟩
  have hp : s.extract 0 (min (s.size : Int) 410).toNat = t := by rw [← ht, pre]; congr 1; omega
  rw [ht]
  clear ht
  go_enter Tryz.func6, Tryz.ntmps6
  go_wp2
  go_ret
  exact ⟨rfl, rfl⟩

/-! ### the plain laws -/
theorem rt_dec {m : Nat} (h : Lib.nDigits m ≤ 400) : isRt (Lib.decDigits m) = true := (isRt_iff _).2 ⟨by rw [nv_dec], by rw [Lib.decDigits_length]; exact h⟩
theorem rt_not {m : Nat} (h : ¬ Lib.nDigits m ≤ 400) : isRt (Lib.decDigits m) = false := by
  cases e : isRt (Lib.decDigits m) with
  | false => rfl
  | true => exact absurd (by have := ((isRt_iff _).1 e).2; rwa [Lib.decDigits_length] at this) h
theorem dig_le {m k : Nat} (h : m < 10 ^ k) (hk : 1 ≤ k) : Lib.nDigits m ≤ k + 1 := nDigits_le_of_lt h
theorem dig_mono {m n : Nat} (h : m ≤ n) : Lib.nDigits m ≤ Lib.nDigits n + 1 := by
  refine nDigits_le_of_lt (Nat.lt_of_le_of_lt h (dg_lt n))
theorem dig_u32 {b : Nat} (h : b < 4294967296) : Lib.nDigits b ≤ 400 := by
  have := nDigits_le_of_lt (k := 10) (u := b) (by omega)
  omega

theorem both_dec {m n : Nat} (hm : Lib.nDigits m ≤ 400) (hn : Lib.nDigits n ≤ 400) : both (B (Lib.decDigits m)) (B (Lib.decDigits n)) = true := by
  unfold both; rw [tx_B, tx_B, rt_dec hm, rt_dec hn]; rfl
theorem mulS_dec {m n : Nat} (hm : Lib.nDigits m ≤ 400) (hn : Lib.nDigits n ≤ 400) : mulS (B (Lib.decDigits m)) (B (Lib.decDigits n)) = fitS (m * n) ∧ mulE (B (Lib.decDigits m)) (B (Lib.decDigits n)) = fitE (m * n) := by
  unfold mulS mulE
  rw [both_dec hm hn, tx_B, tx_B, nv_dec, nv_dec]
  exact ⟨rfl, rfl⟩
theorem addS_dec {m n : Nat} (hm : Lib.nDigits m ≤ 400) (hn : Lib.nDigits n ≤ 400) : addS (B (Lib.decDigits m)) (B (Lib.decDigits n)) = fitS (m + n) ∧ addE (B (Lib.decDigits m)) (B (Lib.decDigits n)) = fitE (m + n) := by
  unfold addS addE
  rw [both_dec hm hn, tx_B, tx_B, nv_dec, nv_dec]
  exact ⟨rfl, rfl⟩
theorem fit_ok {n : Nat} (h : Lib.nDigits n ≤ 400) : fitS n = Lib.decDigits n ∧ fitE n = 0 := ⟨if_pos h, if_pos h⟩
theorem fit_no {n : Nat} (h : ¬ Lib.nDigits n ≤ 400) : fitS n = [] ∧ fitE n = 11 := ⟨if_neg h, if_neg h⟩
theorem rt_out {s : ByteArray} (h : isRt (tx s) = true) : s = B (Lib.decDigits (nv (tx s))) ∧ Lib.nDigits (nv (tx s)) ≤ 400 := by
  have h1 := (isRt_iff _).1 h
  refine ⟨by rw [← h1.1, B_tx], ?_⟩
  have h2 := h1.2
  rw [h1.1, Lib.decDigits_length] at h2
  exact h2

/-- what NatRests reads of a quotient and a rest. -/
theorem rests_plain (t : ByteArray) (b : Nat) (hb : b < 4294967296) (hb0 : ¬ b = 0) (ht : t.size ≤ 390) (hr : isRt (tx t) = true) :
    (mulS (B (divQ t b)) (B (Lib.decDigits b)) = Lib.decDigits (nv (tx t) / b * b) ∧ mulE (B (divQ t b)) (B (Lib.decDigits b)) = 0) ∧
      B (addS (B (Lib.decDigits (nv (tx t) / b * b))) (B (Lib.decDigits (divR t b)))) = t ∧ addE (B (Lib.decDigits (nv (tx t) / b * b))) (B (Lib.decDigits (divR t b))) = 0 ∧ divR t b < b ∧ ((divQ t b).length ≤ 400 ∧ Lib.nDigits (nv (tx t) / b * b) ≤ 400 ∧ Lib.nDigits (divR t b) ≤ 400) := by
  obtain ⟨h1, h2⟩ := rt_out hr
  have hbp : 0 < b := by omega
  have hq : divQ t b = Lib.decDigits (nv (tx t) / b) := by unfold divQ; rw [hr, decide_eq_true hb0]; rfl
  have hrr : divR t b = nv (tx t) % b := by unfold divR; rw [hr, decide_eq_true hb0]; rfl
  rw [hq, hrr]
  have hn : Lib.nDigits (nv (tx t)) ≤ 390 := by
    have h3 := (isRt_iff _).1 hr
    have h4 : (tx t).length ≤ 390 := by unfold tx; rw [len_str]; exact ht
    rw [h3.1, Lib.decDigits_length] at h4
    exact h4
  obtain ⟨n, hne⟩ : ∃ n, nv (tx t) = n := ⟨_, rfl⟩
  rw [hne] at h1 hn ⊢
  have hdm := Nat.div_add_mod' n b
  have hd1 : Lib.nDigits (n / b) ≤ 400 := by have := dig_mono (Nat.div_le_self n b); omega
  have hd2 : Lib.nDigits (n / b * b) ≤ 400 := by have := dig_mono (show n / b * b ≤ n by omega); omega
  have hd3 : Lib.nDigits (n % b) ≤ 400 := by have := dig_mono (Nat.mod_le n b); omega
  have m1 := mulS_dec hd1 (dig_u32 hb)
  have m2 := fit_ok hd2
  have a1 := addS_dec hd2 hd3
  rw [hdm] at a1
  have a2 := fit_ok (show Lib.nDigits n ≤ 400 by omega)
  exact ⟨⟨m1.1.trans m2.1, m1.2.trans m2.2⟩, by rw [a1.1, a2.1, ← h1], by rw [a1.2, a2.2], Nat.mod_lt n hbp, by rw [Lib.decDigits_length]; exact hd1, hd2, hd3⟩

end Go.Proofs.YtdppcpiepippoaaGreatDoor
