/- The document's own decimals (targumref04): Right, digits, zeros, Num: walked. -/
import Derived.Test.YtbopikeoaokdpaaDoorDecF
import Derived.Test.YtbopikeoaokdpaaDoorBld
namespace Go.Proofs.YtbopikeoaokdpaaDoor
open Go.RowKit
attribute [local go_sem] Oper.semAt_some

theorem isDg_le {c : UInt8} (h : isDg c = true) : 48 ≤ c.toNat ∧ c.toNat ≤ 57 := by
  unfold isDg at h
  rw [Bool.and_eq_true, decide_eq_true_eq, decide_eq_true_eq] at h
  exact h
theorem isDg_out {c : UInt8} (h : isDg c = false) : (c.toNat : Int) < 48 ∨ (48 ≤ (c.toNat : Int) ∧ 57 < (c.toNat : Int)) := by
  unfold isDg at h
  rw [Bool.and_eq_false_iff, decide_eq_false_iff_not, decide_eq_false_iff_not] at h
  omega

set_option maxRecDepth 100000 in
set_option maxHeartbeats 1000000 in
theorem rdigits_calls (s : ByteArray) (hs : s.size ≤ 140737488355328) (w : World) :
    Calls Tryd.prog 24 #[.string s] w fun e w' => e = .returned (.int .i64 (dgp (tx s)).length) ∧ w = w' := by
  have hle := dgp_le (tx s)
  rw [txs_len] at hle
  obtain ⟨m, hm⟩ : ∃ m, (dgp (tx s)).length = m := ⟨_, rfl⟩
  rw [hm] at hle ⊢
  have HM := hid hm
  clear hm
  go_enter Tryd.func24, Tryd.ntmps24
  go_wp2
  go_loop [3] (fun v => ∃ k : Nat, v = .int .i64 k ∧ k ≤ m) (fun v => s.size - (intOf v).toNat)
  case atStart => exact ⟨0, rfl, Nat.zero_le _⟩
  case round =>
    obtain ⟨k, rfl, hk⟩ := hrel
    by_cases hlt : k < s.size
    · have hat := dgp_at_lt (tx s) (k := k) (by rw [HM.out]; exact hk) (by rw [txs_len]; exact hlt)
      rw [HM.out] at hat
      obtain ⟨c, hc⟩ : ∃ c, s[k] = c := ⟨_, rfl⟩
      have hc2 : (tx s)[k]'(by rw [txs_len]; exact hlt) = c := hc
      rw [hc2] at hat
      clear hc2
      by_cases hkm : k < m
      · have hd := isDg_le (hat.2 hkm)
        obtain ⟨hd1, hd2⟩ := hd
        have hd3 : 48 ≤ (c.toNat : Int) := by omega
        have hd4 : (c.toNat : Int) ≤ 57 := by omega
        clear hat
        go_wp2
        go_round
        case rel => exact ⟨k + 1, by simp, hkm⟩
        case measure => simp [intOf]; omega
      · have hd : isDg c = false := by
          cases h : isDg c with
          | false => rfl
          | true => exact absurd (hat.1 h) hkm
        have hd2 := isDg_out hd
        have HK := hid (show m = k by omega)
        clear hat hd hkm
        rcases hd2 with e1 | ⟨e1, e2⟩
        all_goals (
          go_wp2
          go_ret
          exact ⟨ret_int (by rw [HK.out]), rfl⟩)
    · have HK := hid (show m = k by omega)
      go_wp2
      go_ret
      exact ⟨ret_int (by rw [HK.out]), rfl⟩

set_option maxRecDepth 100000 in
theorem rNum_calls (n : Int) (hn : n ≤ 100000) (hn2 : -100000 ≤ n) (w : World) :
    Calls Tryd.prog 16 #[.int .i64 n] w fun e w' => e = .returned (.string (B (Lib.itoa n))) ∧ Below w.heap.size w w' := by
  by_cases h : n < 0
  · obtain ⟨m, hm⟩ : ∃ m : Nat, n = -(m : Int) := ⟨n.natAbs, by omega⟩
    subst hm
    have hof := fun W => rOf_calls m (by omega) W
    obtain ⟨q, hq⟩ : ∃ q : ByteArray, (⟨(Lib.decDigits m).toArray⟩ : ByteArray) = q := ⟨_, rfl⟩
    have HR := hid (show B (Lib.itoa (-(m : Int))) = ⟨#[45]⟩ ++ q by
      rw [← B_tx (⟨#[45]⟩ ++ q), tx_app, ← hq]
      unfold Lib.itoa
      rw [if_pos h, show ((-(m : Int)).natAbs) = m by omega]
      show B (45 :: Lib.decDigits m) = B ([45] ++ tx (B (Lib.decDigits m)))
      rw [tx_B]; rfl)
    have hqs : q.size ≤ 10 := by rw [← txs_len, ← hq]; show (tx (B (Lib.decDigits m))).length ≤ 10; rw [tx_B, Lib.decDigits_length]; have := rdig_lt 9 m (by omega); omega
    rw [hq] at hof
    clear hq
    have hw1 : IntKind.i64.wrap (- -(m : Int)) = (m : Int) := by rw [Int.neg_neg]; exact IntWalk.i64_in _ (by omega)
    have hw2 : IntKind.u64.wrap (m : Int) = (m : Int) := IntWalk.u64_in _ (by omega)
    go_enter Tryd.func16, Tryd.ntmps16
    go_wp2_with (go_at_call 19; refine (hof _).mono ?_; rintro e w1 ⟨rfl, hb⟩)
    go_ret
    exact ⟨by rw [HR.out] <;> rfl, hb⟩
  · obtain ⟨m, hm⟩ := Int.eq_ofNat_of_zero_le (show 0 ≤ n by omega)
    subst hm
    have hof := fun W => rOf_calls m (by omega) W
    obtain ⟨q, hq⟩ : ∃ q : ByteArray, (⟨(Lib.decDigits m).toArray⟩ : ByteArray) = q := ⟨_, rfl⟩
    have HR := hid (show B (Lib.itoa (m : Int)) = q by
      rw [← hq]
      unfold Lib.itoa
      rw [if_neg h]; rfl)
    rw [hq] at hof
    clear hq
    have hw2 : IntKind.u64.wrap (m : Int) = (m : Int) := IntWalk.u64_in _ (by omega)
    go_enter Tryd.func16, Tryd.ntmps16
    go_wp2_with (go_at_call 19; refine (hof _).mono ?_; rintro e w1 ⟨rfl, hb⟩)
    go_ret
    exact ⟨by rw [HR.out] <;> rfl, hb⟩

theorem decR_main (n : Bool) (s : ByteArray) (x : Int) (h1 : isRt (tx s) = true) (h2 : s.size ≤ 100) (h0 : tx s ≠ [48]) (h3 : -100 ≤ x) (h4 : x ≤ 100) (hp : 0 < s.size) (c : UInt8) (hc : s[s.size - 1] = c) : decR ⟨n, tx s, x⟩ = !(c == 48) := by
  unfold decR
  have hl := txs_len s
  have hne : tx s ≠ [] := by intro e; rw [e] at hl; simp at hl; omega
  have hg : (tx s).getLast? = some c := by
    rw [List.getLast?_eq_getElem?, hl, ← hc]
    exact List.getElem?_eq_getElem _
  rw [if_neg h0]
  show (isRt (tx s) && (decide ((tx s).length ≤ 100) && (decide (-100 ≤ x) && decide (x ≤ 100) && !((tx s).getLast? == some 48)))) = _
  rw [h1, hl, decide_eq_true h2, decide_eq_true h3, decide_eq_true h4, hg]
  rfl

set_option maxRecDepth 100000 in
set_option maxHeartbeats 2000000 in
theorem rdecRight_calls (n : Bool) (s : ByteArray) (x : Int) (hs : s.size ≤ 140737488355328) (w : World) :
    Calls Tryd.prog 45 #[.agg #[.bool n, .string s, .int .i64 x]] w fun e w' => e = .returned (.bool (decR ⟨n, tx s, x⟩)) ∧ Below w.heap.size w w' := by
  have hC := Cls.new w 24 [.bool n, .string s, .int .i64 x]
  have hA := below_alloc w (.cells #[.bool n, .string s, .int .i64 x] 24)
  have hright := fun W => same_symm (rRight_calls s hs W)
  have c0 := hC.cell 0 rfl
  have c1 := hC.cell 1 rfl
  have c2 := hC.cell 2 rfl
  have hl := txs_len s
  cases h1 : isRt (tx s) with
  | false =>
    have HR := hid (show decR ⟨n, tx s, x⟩ = false by
      unfold decR
      rw [if_neg (show ¬ (tx s = [48]) from fun e => by rw [e] at h1; exact absurd h1 (by decide))]
      show (isRt (tx s) && _) = false
      rw [h1]; rfl)
    rw [h1] at hright
    clear h1 hl
    go_enter Tryd.func45, Tryd.ntmps45
    go_wp2_with (go_at_call 67; refine (hright _).mono ?_; rintro e w1 ⟨rfl, rfl⟩)
    go_ret
    exact ⟨ret_bool HR.out.symm, hA⟩
  | true =>
    rw [h1] at hright
    by_cases h2 : s.size ≤ 100
    · have h2i : ¬ (100 : Int) < (s.size : Int) := by omega
      by_cases h0 : tx s = [48]
      · have hb : (s.toList == [48]) = true := by rw [beq_iff_eq, Lib.toList_data]; exact h0
        have HR := hid (show decR ⟨n, tx s, x⟩ = (decide (x = 0) && !n) by unfold decR; rw [if_pos h0])
        clear h1 hl h0 h2
        by_cases hx : x = 0
        · subst hx
          cases n
          all_goals (
            go_enter Tryd.func45, Tryd.ntmps45
            go_wp2_with (go_at_call 67; refine (hright _).mono ?_; rintro e w1 ⟨rfl, rfl⟩)
            go_ret
            exact ⟨ret_bool HR.out.symm, hA⟩)
        · have hxb : (x == 0) = false := by rw [beq_eq_false_iff_ne]; exact hx
          have HX := hid (decide_eq_false hx)
          clear hx
          go_enter Tryd.func45, Tryd.ntmps45
          go_wp2_with (go_at_call 67; refine (hright _).mono ?_; rintro e w1 ⟨rfl, rfl⟩)
          go_ret
          exact ⟨ret_bool (by rw [HR.out, HX.out]; rfl), hA⟩
      · have hb : (s.toList == [48]) = false := by rw [beq_eq_false_iff_ne, Lib.toList_data]; exact h0
        have hp : 0 < s.size := by have := (rt_len h1).1; omega
        by_cases h3 : -100 ≤ x
        · by_cases h4 : x ≤ 100
          · obtain ⟨c, hc⟩ : ∃ c, s[s.size - 1] = c := ⟨_, rfl⟩
            have HR := hid (decR_main n s x h1 h2 h0 h3 h4 hp c hc)
            have hi : ((s.size : Int) - 1).toNat = s.size - 1 := by omega
            obtain ⟨j, hj⟩ : ∃ j : Nat, s.size - 1 = j := ⟨_, rfl⟩
            have hjs : j < s.size := by omega
            have hji : (s.size : Int) - 1 = (j : Int) := by omega
            have hc' : s[j] = c := by subst hj; exact hc
            have hcb : (c == 48) = ((c.toNat : Int) == 48) := by rw [Bool.eq_iff_iff, beq_iff_eq, beq_iff_eq]; exact byte48 c
            rw [hcb] at HR
            obtain ⟨b, hbb⟩ : ∃ b, ((c.toNat : Int) == 48) = b := ⟨_, rfl⟩
            rw [hbb] at HR
            have hbn : ((c.toNat : Int) != 48) = !b := by rw [bne, hbb]
            clear h1 hl h0 h2 hc hi hj hcb
            go_enter Tryd.func45, Tryd.ntmps45
            go_wp2_with (go_at_call 67; refine (hright _).mono ?_; rintro e w1 ⟨rfl, rfl⟩)
            go_ret
            exact ⟨ret_bool HR.out.symm, hA⟩
          · have HR := hid (show decR ⟨n, tx s, x⟩ = false by
              unfold decR
              rw [if_neg h0]
              show (isRt (tx s) && (_ && (_ && decide (x ≤ 100) && _))) = false
              rw [decide_eq_false h4]; simp)
            clear h1 hl h0 h2
            go_enter Tryd.func45, Tryd.ntmps45
            go_wp2_with (go_at_call 67; refine (hright _).mono ?_; rintro e w1 ⟨rfl, rfl⟩)
            go_ret
            exact ⟨ret_bool HR.out.symm, hA⟩
        · have HR := hid (show decR ⟨n, tx s, x⟩ = false by
            unfold decR
            rw [if_neg h0]
            show (isRt (tx s) && (_ && (decide (-100 ≤ x) && _ && _))) = false
            rw [decide_eq_false h3]; simp)
          clear h1 hl h0 h2
          go_enter Tryd.func45, Tryd.ntmps45
          go_wp2_with (go_at_call 67; refine (hright _).mono ?_; rintro e w1 ⟨rfl, rfl⟩)
          go_ret
          exact ⟨ret_bool HR.out.symm, hA⟩
    · have h2i : (100 : Int) < (s.size : Int) := by omega
      have HR := hid (show decR ⟨n, tx s, x⟩ = false by
        unfold decR
        rw [if_neg (show ¬ (tx s = [48]) from fun e => by rw [e] at hl; simp at hl; omega)]
        show (isRt (tx s) && (decide ((tx s).length ≤ 100) && _)) = false
        rw [hl, decide_eq_false h2]; simp)
      clear h1 hl h2
      go_enter Tryd.func45, Tryd.ntmps45
      go_wp2_with (go_at_call 67; refine (hright _).mono ?_; rintro e w1 ⟨rfl, rfl⟩)
      go_ret
      exact ⟨ret_bool HR.out.symm, hA⟩
end Go.Proofs.YtbopikeoaokdpaaDoor
