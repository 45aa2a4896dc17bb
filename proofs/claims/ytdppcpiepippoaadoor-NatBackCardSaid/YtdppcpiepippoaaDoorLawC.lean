/- The statement NatBack, walked. -/
import Derived.Test.YtdppcpiepippoaaDoorLawB
namespace Go.Proofs.YtdppcpiepippoaaDoor
open Go.RowKit Go.Shelf
attribute [local go_sem] Oper.semAt_some

theorem bytesL_zero : bytesL 0 = [] := by unfold bytesL; rw [bdig_zero]; rfl
theorem bytesL_pos {n : Nat} (h : n ≠ 0) : bytesL n = bytesL (n / 256) ++ [UInt8.ofNat (n % 256)] := by
  unfold bytesL; rw [bdig_pos h, List.reverse_cons, List.map_append]; rfl
theorem bv_bytesL : ∀ (k n : Nat), n < 256 ^ k → bv (bytesL n) = n
  | 0, n, h => by rw [Nat.pow_zero] at h; rw [show n = 0 by omega, bytesL_zero]; rfl
  | k + 1, n, h => by
    by_cases h0 : n = 0
    · rw [h0, bytesL_zero]; rfl
    · rw [bytesL_pos h0, bv_snoc, bv_bytesL k (n / 256) (by rw [Nat.pow_succ] at h; exact Nat.div_lt_of_lt_mul (by rw [Nat.mul_comm]; exact h)), byte_toNat (Nat.mod_lt n (by decide))]
      omega
theorem lt_pow (n : Nat) : n < 256 ^ n := Nat.lt_of_lt_of_le (Nat.lt_pow_self (by decide : 1 < 256)) (Nat.le_refl _)
theorem bytesL_head : ∀ (k n : Nat), n < 256 ^ k → (bytesL n).head? ≠ some 0
  | 0, n, h => by rw [Nat.pow_zero] at h; rw [show n = 0 by omega, bytesL_zero]; simp
  | k + 1, n, h => by
    by_cases h0 : n = 0
    · rw [h0, bytesL_zero]; simp
    · rw [bytesL_pos h0]
      by_cases h1 : n / 256 = 0
      · rw [h1, bytesL_zero, List.nil_append, List.head?_cons]
        intro e
        have := congrArg UInt8.toNat (Option.some.inj e)
        rw [byte_toNat (Nat.mod_lt n (by decide))] at this
        have h2 : (0 : UInt8).toNat = 0 := rfl
        omega
      · have hne : bytesL (n / 256) ≠ [] := by rw [bytesL_pos h1]; simp
        rw [head_app hne]
        exact bytesL_head k (n / 256) (by rw [Nat.pow_succ] at h; exact Nat.div_lt_of_lt_mul (by rw [Nat.mul_comm]; exact h))

theorem bytesL_bv (l : List UInt8) (h : l.head? ≠ some 0) : ∀ k, k ≤ l.length → bytesL (bv (l.take k)) = l.take k ∧ (0 < k → bv (l.take k) ≠ 0)
  | 0, _ => by rw [List.take_zero]; exact ⟨by rw [show bv [] = 0 from rfl, bytesL_zero], fun h => absurd h (Nat.lt_irrefl 0)⟩
  | k + 1, hk => by
    obtain ⟨h1, h2⟩ := bytesL_bv l h k (by omega)
    have e := bv_take (show k < l.length by omega)
    have hc := (l[k]'(by omega)).toNat_lt
    have hne : bv (l.take (k + 1)) ≠ 0 := by
      rw [e]
      by_cases hk0 : k = 0
      · subst hk0
        intro e2
        apply h
        rw [List.head?_eq_getElem?, List.getElem?_eq_getElem (by omega)]
        congr 1
        exact UInt8.toNat_inj.1 (by have : (0 : UInt8).toNat = 0 := rfl; omega)
      · have := h2 (by omega)
        omega
    refine ⟨?_, fun _ => hne⟩
    rw [bytesL_pos hne, e, show (bv (l.take k) * 256 + (l[k]'(by omega)).toNat) / 256 = bv (l.take k) by omega, show (bv (l.take k) * 256 + (l[k]'(by omega)).toNat) % 256 = (l[k]'(by omega)).toNat by omega, h1,
      List.take_succ_eq_append_getElem (show k < l.length by omega)]
    congr 2
    exact UInt8.toNat_inj.1 (byte_toNat hc)

theorem bv_lt : ∀ (l : List UInt8) (k : Nat), k ≤ l.length → bv (l.take k) < 256 ^ k
  | l, 0, _ => by rw [List.take_zero]; decide
  | l, k + 1, hk => by
    rw [bv_take (show k < l.length by omega), Nat.pow_succ]
    have := bv_lt l k (by omega)
    have hc := (l[k]'(by omega)).toNat_lt
    have : (bv (l.take k) + 1) * 256 ≤ 256 ^ k * 256 := Nat.mul_le_mul_right _ this
    omega

theorem bytesL_len {n : Nat} (h : Lib.nDigits n ≤ 400) : (bytesL n).length ≤ 400 := by
  unfold bytesL
  rw [List.length_map, List.length_reverse]
  exact bdig_dig 400 (dg_lt n) h

theorem dig_of {n d k : Nat} (h : n < 10 ^ d) (h2 : d ≤ k + 1) : Lib.nDigits n ≤ k + 1 :=
  dig_lt k n (Nat.lt_of_lt_of_le h (Nat.pow_le_pow_right (by decide) h2))
theorem lt_1000 {n k : Nat} (h : n < 256 ^ k) : n < 10 ^ (3 * k) := by
  rw [Nat.pow_mul]
  exact Nat.lt_of_lt_of_le h (Nat.pow_le_pow_left (by decide) _)

/-- what NatBack reads of its first text. -/
theorem back_one (t : ByteArray) : (bytE t = 0 ∧ ofbE (B (bytS t)) = 0 ∧ B (ofbS (B (bytS t))) = t) ∨ bytE t = 10 := by
  cases hr : isRt (tx t) with
  | false => exact .inr (by unfold bytE; rw [hr]; rfl)
  | true =>
    left
    obtain ⟨h1, h2⟩ := rt_out hr
    have hS : bytS t = bytesL (nv (tx t)) := by unfold bytS; rw [hr]; rfl
    have hh := bytesL_head _ _ (lt_pow (nv (tx t)))
    have hb := bv_bytesL _ _ (lt_pow (nv (tx t)))
    refine ⟨by unfold bytE; rw [hr]; rfl, ?_, ?_⟩
    · unfold ofbE; rw [tx_B, hS, if_neg hh, hb]; exact (fit_ok h2).2
    · unfold ofbS; rw [tx_B, hS, if_neg hh, hb, (fit_ok h2).1]; exact h1.symm
theorem back_one_len (t : ByteArray) : (B (bytS t)).size ≤ 400 := by
  rw [size_B]
  unfold bytS
  cases hr : isRt (tx t) with
  | false => simp
  | true => exact bytesL_len (rt_out hr).2

/-- what NatBack reads of its second text. -/
theorem back_two (u : ByteArray) (hu : u.size ≤ 100) : (ofbE u = 0 ∧ bytE (B (ofbS u)) = 0 ∧ B (bytS (B (ofbS u))) = u) ∨ ofbE u = 10 := by
  by_cases hh : (tx u).head? = some 0
  · exact .inr (if_pos hh)
  · left
    have hl : (tx u).length = u.size := len_str u
    have hv := bv_lt (tx u) (tx u).length (Nat.le_refl _)
    rw [List.take_length] at hv
    have hd : Lib.nDigits (bv (tx u)) ≤ 400 := dig_of (k := 399) (lt_1000 hv) (by omega)
    have hS : ofbS u = Lib.decDigits (bv (tx u)) := by unfold ofbS; rw [if_neg hh, (fit_ok hd).1]
    have hb := (bytesL_bv (tx u) hh _ (Nat.le_refl _)).1
    rw [List.take_length] at hb
    refine ⟨by unfold ofbE; rw [if_neg hh, (fit_ok hd).2], ?_, ?_⟩
    · unfold bytE; rw [tx_B, hS, rt_dec hd]; rfl
    · unfold bytS; rw [tx_B, hS, rt_dec hd, nv_dec, hb]; exact B_tx u
theorem ofbS_len (u : ByteArray) : (B (ofbS u)).size ≤ 400 := by
  rw [size_B]
  unfold ofbS
  split
  · simp
  · exact fitS_len _

theorem back_three (n : Nat) (hn : n < 18446744073709551616) : toN (B (Lib.decDigits n)) = n ∧ toB (B (Lib.decDigits n)) = true := by
  have hd : Lib.nDigits n ≤ 400 := by
    have := dig_lt 19 n (by omega)
    omega
  unfold toN toB
  rw [tx_B, rt_dec hd, nv_dec, decide_eq_true hn]
  exact ⟨rfl, rfl⟩

set_option maxRecDepth 100000 in
set_option maxHeartbeats 4000000 in
theorem back_law (a b : ByteArray) (n : Nat) (hn : n < 18446744073709551616) (w : World) (hT : Tabs w) :
    Calls Tryd.prog 6 #[.string a, .string b, .int .u64 n] w fun e w' => e = .returned (.bool true) ∧ Below w.heap.size w w' := by
  have hts := pre_size 410 a
  have hus := pre_size 100 b
  obtain ⟨t, ht⟩ : ∃ t, pre 410 a = t := ⟨_, rfl⟩
  obtain ⟨u, hu⟩ : ∃ u, pre 100 b = u := ⟨_, rfl⟩
  have hcut := cut_calls a
  have hp : b.extract 0 (min (b.size : Int) 100).toNat = u := by rw [← hu, pre]; congr 1; omega
  rw [ht] at hts hcut
  rw [hu] at hus
  have p1 := back_one t
  have p2 := back_two u hus
  have p3 := back_three n hn
  have z1 := back_one_len t
  have z2 := ofbS_len u
  have c1 := natBytes_calls t (by omega)
  have c3 := natOfBytes_calls u (by omega)
  have c5 := fun w h => natOf_calls n hn w h
  change ∀ w, Tabs w → Calls _ _ _ _ fun e w' => e = .returned (.tuple #[.string (B _), _]) ∧ _ at c1
  change ∀ w, Tabs w → Calls _ _ _ _ fun e w' => e = .returned (.tuple #[.string (B _), _]) ∧ _ at c3
  change ∀ w, Tabs w → Calls _ _ _ _ fun e w' => e = .returned (.string (B _)) ∧ _ at c5
  obtain ⟨c, hc⟩ : ∃ c, B (bytS t) = c := ⟨_, rfl⟩
  obtain ⟨g, hg⟩ : ∃ g, B (ofbS u) = g := ⟨_, rfl⟩
  obtain ⟨o, ho⟩ : ∃ o, B (Lib.decDigits n) = o := ⟨_, rfl⟩
  have z3 : o.size ≤ 400 := by
    rw [← ho, size_B, Lib.decDigits_length]
    have := dig_lt 19 n (by omega)
    omega
  rw [hc] at c1 p1 z1
  rw [hg] at c3 p2 z2
  rw [ho] at c5 p3
  have c2 := natOfBytes_calls c (by omega)
  have c4 := natBytes_calls g (by omega)
  have c6 := natTo_calls o (by omega)
  rw [p3.1, p3.2] at c6
  change ∀ w, Tabs w → Calls _ _ _ _ fun e w' => e = .returned (.tuple #[.string (B _), _]) ∧ _ at c2
  change ∀ w, Tabs w → Calls _ _ _ _ fun e w' => e = .returned (.tuple #[.string (B _), _]) ∧ _ at c4
  obtain ⟨e1, he1⟩ : ∃ z, bytE t = z := ⟨_, rfl⟩
  obtain ⟨e2, he2⟩ : ∃ z, ofbE c = z := ⟨_, rfl⟩
  obtain ⟨e3, he3⟩ : ∃ z, ofbE u = z := ⟨_, rfl⟩
  obtain ⟨e4, he4⟩ : ∃ z, bytE g = z := ⟨_, rfl⟩
  obtain ⟨d, hd⟩ : ∃ d, B (ofbS c) = d := ⟨_, rfl⟩
  obtain ⟨i, hi⟩ : ∃ i, B (bytS g) = i := ⟨_, rfl⟩
  rw [he1] at c1 p1
  rw [he2, hd] at c2 p1
  rw [he3] at c3 p2
  rw [he4, hi] at c4 p2
  clear he1 he2 he3 he4 hd hi hc hg ho p3 z1 z2 z3 hts hus ht hu
  rcases p1 with ⟨rfl, rfl, rfl⟩ | rfl
  all_goals rcases p2 with ⟨rfl, rfl, rfl⟩ | rfl
  all_goals (
    go_enter Tryd.func6, Tryd.ntmps6
    go_wp2_with fail
    refine (shown_calls w hT).mono ?_
    rintro e w1 ⟨rfl, hb1⟩
    have hT1 := hT.below hb1
    go_wp2_with fail
    refine (hcut w1).mono ?_
    rintro e w1' ⟨rfl, rfl⟩
    go_wp2_with fail
    refine (c1 w1 hT1).mono ?_
    rintro e w2 ⟨rfl, hb2⟩
    have hT2 := hT1.below hb2
    go_wp2_with fail
    refine (c2 w2 hT2).mono ?_
    rintro e w3 ⟨rfl, hb3⟩
    have hT3 := hT2.below hb3
    go_wp2_with fail
    refine (c3 w3 hT3).mono ?_
    rintro e w4 ⟨rfl, hb4⟩
    have hT4 := hT3.below hb4
    go_wp2_with fail
    refine (c4 w4 hT4).mono ?_
    rintro e w5 ⟨rfl, hb5⟩
    have hT5 := hT4.below hb5
    go_wp2_with fail
    refine (c5 w5 hT5).mono ?_
    rintro e w6 ⟨rfl, hb6⟩
    have hT6 := hT5.below hb6
    go_wp2_with fail
    refine (c6 w6 hT6).mono ?_
    rintro e w7 ⟨rfl, hb7⟩
    go_wp2
    go_ret
    have s1 := hb1.size
    have s2 := Nat.le_trans s1 hb2.size
    have s3 := Nat.le_trans s2 hb3.size
    have s4 := Nat.le_trans s3 hb4.size
    have s5 := Nat.le_trans s4 hb5.size
    have s6 := Nat.le_trans s5 hb6.size
    exact ⟨rfl, hb1.trans ((hb2.mono s1).trans ((hb3.mono s2).trans ((hb4.mono s3).trans ((hb5.mono s4).trans ((hb6.mono s5).trans (hb7.mono s6))))))⟩)
end Go.Proofs.YtdppcpiepippoaaDoor
