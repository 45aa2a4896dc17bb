/- The statements NatPowers and NatBack, walked. -/
import Derived.Test.YtdppcpiepippoaaDoorLawA
namespace Go.Proofs.YtdppcpiepippoaaDoor
open Go.RowKit Go.Shelf
attribute [local go_sem] Oper.semAt_some

theorem dig_one (n : Nat) : 1 ≤ Lib.nDigits n := by
  rw [← Lib.decDigits_length]
  have := dec_ne_nil n
  cases h : Lib.decDigits n with
  | nil => exact absurd h this
  | cons a r => simp
theorem dig_lt : ∀ (k n : Nat), n < 10 ^ (k + 1) → Lib.nDigits n ≤ k + 1
  | 0, n, h => by rw [← Lib.decDigits_length, dec_small (by simpa using h)]; simp
  | k + 1, n, h => by
    by_cases h2 : n < 10
    · rw [← Lib.decDigits_length, dec_small h2]; simp
    · have := dig_lt k (n / 10) (by rw [Nat.pow_succ] at h; exact Nat.div_lt_of_lt_mul (by rw [Nat.mul_comm]; exact h))
      rw [← Lib.decDigits_length] at this ⊢
      rw [dec_big h2, List.length_append]
      simpa using this
theorem dig_up {m n : Nat} (h : m ≤ n) : Lib.nDigits m ≤ Lib.nDigits n := by
  have h1 := dig_one n
  have h2 := dg_lt n
  obtain ⟨k, hk⟩ : ∃ k, Lib.nDigits n = k + 1 := ⟨Lib.nDigits n - 1, by omega⟩
  rw [hk] at h2 ⊢
  exact dig_lt k m (Nat.lt_of_le_of_lt h h2)

theorem pow_le_add {b m n : Nat} (h : ¬ Lib.nDigits (b ^ m) ≤ 400) : ¬ Lib.nDigits (b ^ (m + n)) ≤ 400 := by
  by_cases hb : b = 0
  · exfalso
    apply h
    have h1 : b ^ m ≤ 1 := by
      subst hb
      cases m with
      | zero => simp
      | succ m => rw [Nat.pow_succ]; simp
    have := dig_up h1
    have h2 : Lib.nDigits 1 ≤ 1 := dig_lt 0 1 (by decide)
    omega
  · have := dig_up (Nat.pow_le_pow_right (n := b) (by omega) (show m ≤ m + n by omega))
    omega

theorem powS_in {b m : Nat} (h : m ≤ 400) : powS b (m : Int) = fitS (b ^ m) ∧ powE b (m : Int) = fitE (b ^ m) := by
  unfold powS powE
  rw [if_pos (by omega), if_pos (by omega)]
  exact ⟨rfl, rfl⟩

/-- what NatPowers reads. -/
theorem powers_plain (b m n : Nat) (hm : m ≤ 200) (hn : n ≤ 200) :
    (powE b m = 0 ∧ powE b n = 0 ∧ mulS (B (powS b m)) (B (powS b n)) = powS b ((m + n : Nat) : Int) ∧ mulE (B (powS b m)) (B (powS b n)) = powE b ((m + n : Nat) : Int)) ∨
    (powE b m = 11 ∧ powE b n = 0 ∧ powE b ((m + n : Nat) : Int) = 11) ∨ (powE b m = 0 ∧ powE b n = 11 ∧ powE b ((m + n : Nat) : Int) = 11) ∨ (powE b m = 11 ∧ powE b n = 11 ∧ powE b ((m + n : Nat) : Int) = 11) := by
  rw [(powS_in (b := b) (show m ≤ 400 by omega)).1, (powS_in (b := b) (show m ≤ 400 by omega)).2, (powS_in (b := b) (show n ≤ 400 by omega)).1, (powS_in (b := b) (show n ≤ 400 by omega)).2,
    (powS_in (b := b) (show m + n ≤ 400 by omega)).1, (powS_in (b := b) (show m + n ≤ 400 by omega)).2]
  by_cases h1 : Lib.nDigits (b ^ m) ≤ 400
  · by_cases h2 : Lib.nDigits (b ^ n) ≤ 400
    · refine .inl ⟨(fit_ok h1).2, (fit_ok h2).2, ?_⟩
      rw [(fit_ok h1).1, (fit_ok h2).1, Nat.pow_add]
      exact mulS_dec h1 h2
    · refine .inr (.inr (.inl ⟨(fit_ok h1).2, (fit_no h2).2, (fit_no ?_).2⟩))
      rw [Nat.add_comm]
      exact pow_le_add h2
  · by_cases h2 : Lib.nDigits (b ^ n) ≤ 400
    · exact .inr (.inl ⟨(fit_no h1).2, (fit_ok h2).2, (fit_no (pow_le_add h1)).2⟩)
    · exact .inr (.inr (.inr ⟨(fit_no h1).2, (fit_no h2).2, (fit_no (pow_le_add h1)).2⟩))

theorem fitS_len (n : Nat) : (fitS n).length ≤ 400 := by
  unfold fitS
  split
  · rw [Lib.decDigits_length]; assumption
  · simp
theorem powS_len (b : Nat) (x : Int) : (powS b x).length ≤ 400 := by
  unfold powS
  split
  · exact fitS_len _
  · simp

set_option maxRecDepth 100000 in
set_option maxHeartbeats 4000000 in
theorem powers_in (b m n : Nat) (hb : b < 4294967296) (hm : m ≤ 200) (hn : n ≤ 200) (w : World) (hT : Tabs w) :
    Calls Tryd.prog 4 #[.int .u32 b, .int .i64 m, .int .i64 n] w fun e w' => e = .returned (.bool true) ∧ Below w.heap.size w w' := by
  have hpl := powers_plain b m n hm hn
  have hA := fun w h => natPower_calls b m hb w h
  have hB := fun w h => natPower_calls b n hb w h
  have hC := fun w h => natPower_calls b ((m + n : Nat) : Int) hb w h
  obtain ⟨a, ha⟩ : ∃ a, B (powS b m) = a := ⟨_, rfl⟩
  obtain ⟨c, hc⟩ : ∃ c, B (powS b n) = c := ⟨_, rfl⟩
  obtain ⟨d, hd⟩ : ∃ d, B (powS b ((m + n : Nat) : Int)) = d := ⟨_, rfl⟩
  change ∀ w, Tabs w → Calls _ _ _ _ fun e w' => e = .returned (.tuple #[.string (B _), _]) ∧ _ at hA
  change ∀ w, Tabs w → Calls _ _ _ _ fun e w' => e = .returned (.tuple #[.string (B _), _]) ∧ _ at hB
  change ∀ w, Tabs w → Calls _ _ _ _ fun e w' => e = .returned (.tuple #[.string (B _), _]) ∧ _ at hC
  have has : a.size ≤ 400 := by rw [← ha, size_B]; exact powS_len _ _
  have hcs : c.size ≤ 400 := by rw [← hc, size_B]; exact powS_len _ _
  have hM := natMul_calls a c (by omega) (by omega)
  change ∀ w, Tabs w → Calls _ _ _ _ fun e w' => e = .returned (.tuple #[.string (B _), _]) ∧ _ at hM
  rw [ha] at hA hpl
  rw [hc] at hB hpl
  rw [hd] at hC
  have hsum : ((m : Int) + (n : Int)) = ((m + n : Nat) : Int) := by omega
  obtain ⟨k, hk⟩ : ∃ k : Nat, m + n = k := ⟨_, rfl⟩
  rw [hk] at hC hpl hsum hd
  obtain ⟨z1, hz1⟩ : ∃ z, powE b m = z := ⟨_, rfl⟩
  obtain ⟨z2, hz2⟩ : ∃ z, powE b n = z := ⟨_, rfl⟩
  obtain ⟨z3, hz3⟩ : ∃ z, powE b k = z := ⟨_, rfl⟩
  rw [hz1] at hA hpl
  rw [hz2] at hB hpl
  rw [hz3] at hC hpl
  obtain ⟨y, hy⟩ : ∃ y, B (mulS a c) = y := ⟨_, rfl⟩
  obtain ⟨z4, hz4⟩ : ∃ z, mulE a c = z := ⟨_, rfl⟩
  rw [hy, hz4] at hM
  have hpl2 : (z1 = 0 ∧ z2 = 0 ∧ y = d ∧ z4 = z3) ∨ (z1 = 11 ∧ z2 = 0 ∧ z3 = 11) ∨ (z1 = 0 ∧ z2 = 11 ∧ z3 = 11) ∨ (z1 = 11 ∧ z2 = 11 ∧ z3 = 11) := by
    rcases hpl with ⟨h1, h2, h3, h4⟩ | h | h | h
    · exact .inl ⟨h1, h2, by rw [← hy, h3, hd], by rw [← hz4, h4]⟩
    · exact .inr (.inl h)
    · exact .inr (.inr (.inl h))
    · exact .inr (.inr (.inr h))
  clear hpl hy hz4 hz1 hz2 hz3 hd ha hc hk has hcs
  have hm0 : (0 : Int) ≤ (m : Int) := by omega
  have hn0 : (0 : Int) ≤ (n : Int) := by omega
  have hm2 : (m : Int) ≤ 200 := by omega
  have hn2 : (n : Int) ≤ 200 := by omega
  rcases hpl2 with ⟨rfl, rfl, rfl, rfl⟩ | ⟨rfl, rfl, rfl⟩ | ⟨rfl, rfl, rfl⟩ | ⟨rfl, rfl, rfl⟩
  all_goals (
    go_enter Tryd.func4, Tryd.ntmps4
    go_wp2_with fail
    refine (shown_calls w hT).mono ?_
    rintro e w1 ⟨rfl, hb1⟩
    have hT1 := hT.below hb1
    go_wp2_with fail
    refine (hA w1 hT1).mono ?_
    rintro e w2 ⟨rfl, hb2⟩
    have hT2 := hT1.below hb2
    go_wp2_with fail
    refine (hB w2 hT2).mono ?_
    rintro e w3 ⟨rfl, hb3⟩
    have hT3 := hT2.below hb3
    go_wp2_with fail
    refine (hC w3 hT3).mono ?_
    rintro e w4 ⟨rfl, hb4⟩
    have hT4 := hT3.below hb4
    go_wp2_with fail
    refine (hM w4 hT4).mono ?_
    rintro e w5 ⟨rfl, hb5⟩
    go_wp2
    go_ret
    have s1 := hb1.size
    have s2 := Nat.le_trans s1 hb2.size
    have s3 := Nat.le_trans s2 hb3.size
    have s4 := Nat.le_trans s3 hb4.size
    exact ⟨rfl, hb1.trans ((hb2.mono s1).trans ((hb3.mono s2).trans ((hb4.mono s3).trans (hb5.mono s4))))⟩)

set_option maxRecDepth 100000 in
theorem powers_law (b : Nat) (m n : Int) (hb : b < 4294967296) (w : World) (hT : Tabs w) :
    Calls Tryd.prog 4 #[.int .u32 b, .int .i64 m, .int .i64 n] w fun e w' => e = .returned (.bool true) ∧ Below w.heap.size w w' := by
  by_cases hall : 0 ≤ m ∧ m ≤ 200 ∧ 0 ≤ n ∧ n ≤ 200
  · have h := powers_in b m.toNat n.toNat hb (by omega) (by omega) w hT
    rwa [show ((m.toNat : Nat) : Int) = m from by omega, show ((n.toNat : Nat) : Int) = n from by omega] at h
  · have hc : m < 0 ∨ (0 ≤ m ∧ n < 0) ∨ (0 ≤ m ∧ 0 ≤ n ∧ 200 < m) ∨ (0 ≤ m ∧ 0 ≤ n ∧ m ≤ 200 ∧ 200 < n) := by omega
    clear hall
    rcases hc with h1 | ⟨h1, h2⟩ | ⟨h1, h2, h3⟩ | ⟨h1, h2, h3, h4⟩
    all_goals (
      go_enter Tryd.func4, Tryd.ntmps4
      go_wp2_with fail
      refine (shown_calls w hT).mono ?_
      rintro e w1 ⟨rfl, hb1⟩
      go_wp2
      go_ret
      exact ⟨rfl, hb1⟩)
end Go.Proofs.YtdppcpiepippoaaDoor
