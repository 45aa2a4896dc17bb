/- The document's own naturals (targumref01): compare, To (apart from the rest). -/
import Derived.Test.YtnomgomdobiohaaGreatDoorRefB
import Derived.Test.YtnomgomdobiohaaGreatDoorNatV
namespace Go.Proofs.YtnomgomdobiohaaGreatDoor
open Go.RowKit
attribute [local go_sem] Oper.semAt_some

def cmpI (x y : Int) : Int := if x < y then -1 else if y < x then 1 else 0
theorem cmpI_lt {m n : Nat} (h : m < n) : cmpI (m : Nat) (n : Nat) = -1 := by unfold cmpI; rw [if_pos (by omega)]
theorem cmpI_gt {m n : Nat} (h : n < m) : cmpI (m : Nat) (n : Nat) = 1 := by unfold cmpI; rw [if_neg (by omega), if_pos (by omega)]
theorem cmpI_eq {m n : Nat} (h : m = n) : cmpI (m : Nat) (n : Nat) = 0 := by unfold cmpI; rw [if_neg (by omega), if_neg (by omega)]

set_option maxRecDepth 100000 in
set_option maxHeartbeats 2000000 in
theorem rcompare_calls (s t : ByteArray) (hs : isRt (tx s) = true) (ht : isRt (tx t) = true) (w : World) :
    Calls Tryz.prog 62 #[.string s, .string t] w fun e w' => e = .returned (.int .i64 (cmpI (nv (tx s)) (nv (tx t)))) ∧ Below w.heap.size w w' := by
  have ls := rt_len hs
  have lt := rt_len ht
  rw [txs_len] at ls lt
  have ds := Dgs.rt hs
  have dt := Dgs.rt ht
  by_cases hl : s.size = t.size
  · have hbe : ((s.size : Int) != (t.size : Int)) = false := by rw [bne_eq_false_iff_eq]; omega
    have hll : (tx s).length = (tx t).length := by rw [txs_len, txs_len]; exact hl
    have HL := hid (And.intro hl (And.intro hs ht))
    have HLL := hid hll
    have hle : t.size ≤ s.size ∧ s.size ≤ t.size := ⟨by omega, by omega⟩
    obtain ⟨hle1, hle2⟩ := hle
    clear hl hs ht hll
    go_enter Tryz.func62, Tryz.ntmps62
    go_wp2
    go_loopw [5] (fun i wr => ∃ k : Nat, i = .int .i64 k ∧ k ≤ s.size ∧ (tx s).take k = (tx t).take k ∧ Below w.heap.size w wr) (fun i _ => s.size - (intOf i).toNat)
    case atStart => exact ⟨0, rfl, Nat.zero_le _, by rw [List.take_zero, List.take_zero], Below.refl _ _⟩
    case round =>
      obtain ⟨k, rfl, hk, hT, hB⟩ := hrel
      by_cases hlt : k < s.size
      · have hlt2 : k < t.size := by omega
        have h1 := txs_take s hlt
        have h2 := txs_take t hlt2
        obtain ⟨c, hc⟩ : ∃ c, s[k] = c := ⟨_, rfl⟩
        obtain ⟨d, hd⟩ : ∃ d, t[k] = d := ⟨_, rfl⟩
        rw [hc] at h1
        rw [hd] at h2
        have hx : (tx s)[k]'(by rw [txs_len]; exact hlt) = c := hc
        have hy : (tx t)[k]'(by rw [txs_len]; exact hlt2) = d := hd
        rcases Nat.lt_trichotomy c.toNat d.toNat with hcd | hcd | hcd
        · have HR := hid (cmpI_lt (nv_less ds dt HLL.out (by rw [txs_len]; exact hlt) hT (by rw [hx, hy]; exact hcd)))
          have hi1 : (c.toNat : Int) < (d.toNat : Int) := by omega
          clear h1 h2 hT hx hy hcd ds dt
          go_wp2
          go_quiet (fail)
          go_wp2
          go_ret
          exact ⟨ret_int HR.out.symm, belowN hB _⟩
        · have hcd' : c = d := UInt8.toNat_inj.1 hcd
          have HR := hid (show (tx s).take (k + 1) = (tx t).take (k + 1) by rw [h1, h2, hT, hcd'])
          subst hcd'
          clear h1 h2 hT hx hy hcd ds dt
          go_wp2
          go_quiet (fail)
          go_wp2
          go_quiet (fail)
          go_wp2
          go_roundw
          case rel => exact ⟨k + 1, by simp, hlt, HR.out, by first | exact belowN hB _ | exact belowN (belowN hB _) _⟩
          case measure => simp [intOf]; omega
        · have HR := hid (cmpI_gt (nv_less dt ds HLL.out.symm (by rw [txs_len]; exact hlt2) hT.symm (by rw [hx, hy]; exact hcd)))
          have hi1 : (d.toNat : Int) < (c.toNat : Int) := by omega
          clear h1 h2 hT hx hy hcd ds dt
          go_wp2
          go_quiet (fail)
          go_wp2
          go_quiet (fail)
          go_wp2
          go_ret
          exact ⟨ret_int HR.out.symm, by first | exact belowN hB _ | exact belowN (belowN hB _) _⟩
      · have hse : tx s = tx t := by
          rw [List.take_of_length_le (by rw [txs_len]; omega), List.take_of_length_le (by rw [txs_len]; omega)] at hT
          exact hT
        have HR := hid (cmpI_eq (congrArg nv hse))
        clear hse hT ds dt
        go_wp2
        go_ret
        exact ⟨ret_int HR.out.symm, hB⟩
  · have hbe : ((s.size : Int) != (t.size : Int)) = true := by rw [bne_iff_ne]; omega
    rcases Nat.lt_or_gt_of_ne hl with h | h
    · have HR := hid (cmpI_lt (nv_shorter hs ht (by rw [txs_len, txs_len]; exact h)))
      clear hs ht hl ds dt
      go_enter Tryz.func62, Tryz.ntmps62
      go_wp2
      go_ret
      exact ⟨ret_int HR.out.symm, Below.refl _ _⟩
    · have HR := hid (cmpI_gt (nv_shorter ht hs (by rw [txs_len, txs_len]; exact h)))
      clear hs ht hl ds dt
      go_enter Tryz.func62, Tryz.ntmps62
      go_wp2
      go_ret
      exact ⟨ret_int HR.out.symm, Below.refl _ _⟩

/-- the greatest number of 64 bits, as a text. -/
def big64 : ByteArray := ⟨#[49, 56, 52, 52, 54, 55, 52, 52, 48, 55, 51, 55, 48, 57, 53, 53, 49, 54, 49, 53]⟩
theorem big64_val : nv (tx big64) = 18446744073709551615 := by decide +kernel
theorem big64_rt : isRt (tx big64) = true := by decide +kernel
def M64 : Nat := 18446744073709551615

theorem nv_take_le (l : List UInt8) (k : Nat) : nv (l.take k) ≤ nv l := by
  have h := congrArg nv (List.take_append_drop k l)
  rw [nv_append] at h
  have : nv (l.take k) * 1 ≤ nv (l.take k) * 10 ^ (l.drop k).length := Nat.mul_le_mul_left _ (Nat.pow_pos (by omega))
  omega

theorem M64_big {n : Nat} (h : n ≤ M64) : n < 18446744073709551616 := by unfold M64 at h; omega
theorem wrapM {n : Nat} (h : n ≤ M64) : IntKind.u64.wrap (n : Int) = (n : Int) := IntWalk.u64_in _ (by unfold M64 at h; omega)

set_option maxRecDepth 100000 in
set_option maxHeartbeats 4000000 in
theorem rTo_calls (s : ByteArray) (hs : s.size ≤ 140737488355328) (w : World) :
    Calls Tryz.prog 38 #[.string s] w fun e w' => e = .returned (.tuple #[.int .u64 (toN s), .bool (toB s)]) ∧ Below w.heap.size w w' := by
  cases h1 : isRt (tx s) with
  | false =>
    have HR := hid (show toN s = 0 ∧ toB s = false by unfold toN toB; rw [h1]; exact ⟨rfl, rfl⟩)
    go_enter Tryz.func38, Tryz.ntmps38
    go_wp2_with (go_at_call 36; refine (same_symm (rRight_calls _ (by assumption) _)).mono ?_; rintro e w1 ⟨rfl, rfl⟩)
    go_ret2
    exact ⟨by rw [HR.out.1, HR.out.2]; rfl, Below.refl _ _⟩
  | true =>
    have hc := rcompare_calls s big64 h1 big64_rt
    rw [big64_val] at hc
    have ds := Dgs.rt h1
    have ls := rt_len h1
    rw [txs_len] at ls
    by_cases hle : nv (tx s) < 18446744073709551616
    · have HR := hid (show toN s = nv (tx s) ∧ toB s = true by unfold toN toB; rw [h1, decide_eq_true hle]; exact ⟨rfl, rfl⟩)
      have hz : cmpI (nv (tx s) : Nat) (18446744073709551615 : Nat) ≤ 0 := by
        unfold cmpI
        split
        · omega
        · rw [if_neg (by omega)]; exact Int.le_refl _
      obtain ⟨z, hze⟩ : ∃ z, cmpI (nv (tx s) : Nat) (18446744073709551615 : Nat) = z := ⟨_, rfl⟩
      change ∀ w, Calls _ _ _ _ fun e w' => e = .returned (.int .i64 (cmpI (nv (tx s) : Nat) (18446744073709551615 : Nat))) ∧ _ at hc
      rw [hze] at hc hz
      have hM : nv (tx s) ≤ M64 := by unfold M64; omega
      have HM := hid hM
      clear hze hle hM
      change ∀ w, Calls _ _ #[_, .string ⟨#[49, 56, 52, 52, 54, 55, 52, 52, 48, 55, 51, 55, 48, 57, 53, 53, 49, 54, 49, 53]⟩] _ _ at hc
      go_enter Tryz.func38, Tryz.ntmps38
      go_wp2_with (first
        | (go_at_call 36; refine (same_symm (rRight_calls _ (by assumption) _)).mono ?_; rintro e w1 ⟨rfl, rfl⟩)
        | (go_at_call 62; refine (hc _).mono ?_; rintro e w1 ⟨rfl, hb⟩))
      go_loopw [4, 5] (fun v d wr => ∃ (k n : Nat), v = .int .u64 n ∧ d = .int .i64 k ∧ k ≤ s.size ∧ nv ((tx s).take k) = n ∧ Below w.heap.size w wr) (fun _ d _ => s.size - (intOf d).toNat)
      case atStart => exact ⟨0, 0, rfl, rfl, Nat.zero_le _, by rw [List.take_zero, nv_nil], hb⟩
      case round =>
        obtain ⟨k, n, rfl, rfl, hk, hv, hB⟩ := hrel
        by_cases hlt : k < s.size
        · obtain ⟨ch, hch⟩ : ∃ ch, s[k] = ch := ⟨_, rfl⟩
          have hcb := ds.at (k := k) (by rw [txs_len]; exact hlt)
          rw [txs_at s hlt, hch] at hcb
          have htk := txs_take s hlt
          rw [hch] at htk
          have hst : nv ((tx s).take (k + 1)) = n * 10 + (ch.toNat - 48) := by rw [htk, nv_snoc, hv]
          have hle2 := Nat.le_trans (nv_take_le (tx s) (k + 1)) HM.out
          rw [hst] at hle2
          obtain ⟨p, hp⟩ : ∃ p, n * 10 = p := ⟨_, rfl⟩
          rw [hp] at hle2 hst
          obtain ⟨n', hn'⟩ : ∃ n', p + (ch.toNat - 48) = n' := ⟨_, rfl⟩
          have hwp := wrapM (show p ≤ M64 by omega)
          rw [hn'] at hle2 hst
          have hwn := wrapM hle2
          have hpi : 10 * (n : Int) = (p : Int) := by omega
          obtain ⟨c1, c2⟩ := hcb
          have e1 : (48 : Int) ≤ (ch.toNat : Int) := by omega
          have e2 : (ch.toNat : Int) ≤ 57 := by omega
          have hni : (p : Int) + ((ch.toNat : Int) - 48) = (n' : Int) := by omega
          have HS := hid hst
          clear hst hle2 hp hn' htk hv ds
          go_wp2
          go_roundw
          case rel => exact ⟨k + 1, n', by simp, by simp, hlt, HS.out, hB⟩
          case measure => simp [intOf]; omega
        · obtain rfl : k = s.size := by omega
          rw [List.take_of_length_le (by rw [txs_len]; exact Nat.le_refl _)] at hv
          have HV := hid hv
          clear hv ds
          go_wp2
          go_ret2
          exact ⟨by rw [HR.out.1, HR.out.2, HV.out]; rfl, hB⟩
    · have HR := hid (show toN s = 0 ∧ toB s = false by unfold toN toB; rw [h1, decide_eq_false hle]; exact ⟨rfl, rfl⟩)
      rw [show cmpI (nv (tx s) : Nat) (18446744073709551615 : Nat) = 1 from cmpI_gt (by omega)] at hc
      change ∀ w, Calls _ _ #[_, .string ⟨#[49, 56, 52, 52, 54, 55, 52, 52, 48, 55, 51, 55, 48, 57, 53, 53, 49, 54, 49, 53]⟩] _ _ at hc
      clear hle ds ls
      go_enter Tryz.func38, Tryz.ntmps38
      go_wp2_with (first
        | (go_at_call 36; refine (same_symm (rRight_calls _ (by assumption) _)).mono ?_; rintro e w1 ⟨rfl, rfl⟩)
        | (go_at_call 62; refine (hc _).mono ?_; rintro e w1 ⟨rfl, hb⟩))
      go_ret2
      exact ⟨by rw [HR.out.1, HR.out.2]; rfl, hb⟩
end Go.Proofs.YtnomgomdobiohaaGreatDoor
