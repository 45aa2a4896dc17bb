/- The document's own naturals (targumref01): Power: walked. -/
import Derived.Test.YtdppcpiepippoaaDoorRefC
namespace Go.Proofs.YtdppcpiepippoaaDoor
open Go.RowKit
attribute [local go_sem] Oper.semAt_some

theorem size_dec (n : Nat) : (⟨(Lib.decDigits n).toArray⟩ : ByteArray).size = Lib.nDigits n := by rw [← Lib.decDigits_length]; simp [ByteArray.size]
theorem tx_dec (n : Nat) : tx ⟨(Lib.decDigits n).toArray⟩ = Lib.decDigits n := tx_B _

/-- mul, of two numbers' digits. -/
theorem rmul_dec (m n : Nat) (hm : Lib.nDigits m ≤ 500) (hn : Lib.nDigits n ≤ 500) (w : World) :
    Calls Tryd.prog 29 #[.string ⟨(Lib.decDigits m).toArray⟩, .string ⟨(Lib.decDigits n).toArray⟩] w fun e w' => e = .returned (.string ⟨(Lib.decDigits (m * n)).toArray⟩) ∧ Below w.heap.size w w' := by
  have h := rmul_calls ⟨(Lib.decDigits m).toArray⟩ ⟨(Lib.decDigits n).toArray⟩ (by rw [tx_dec]; exact Dgs.dec m) (by rw [tx_dec]; exact Dgs.dec n) (by rw [size_dec]; exact rdig_one m) (by rw [size_dec]; exact hm) (by rw [size_dec]; exact hn) w
  rwa [tx_dec, tx_dec, nv_dec, nv_dec] at h

set_option maxRecDepth 100000 in
set_option maxHeartbeats 4000000 in
theorem rPower_in (b n : Nat) (hb32 : b < 4294967296) (hn : n ≤ 400) (w : World) :
    Calls Tryd.prog 16 #[.int .u32 b, .int .i64 n] w fun e w' => e = .returned (.tuple #[.string ⟨(fitS (b ^ n)).toArray⟩, .int .i64 (fitE (b ^ n))]) ∧ Below w.heap.size w w' := by
  have hbd : Lib.nDigits b ≤ 11 := rdig_le (k := 10) (by omega)
  have hwb : IntKind.u64.wrap (b : Int) = (b : Int) := IntWalk.u64_in _ (by omega)
  go_enter Tryd.func16, Tryd.ntmps16
  go_wp2
  go_loopw [6, 7] (fun v i wr => ∃ (k : Nat), i = .int .i64 k ∧ k ≤ n ∧ v = .string ⟨(Lib.decDigits (b ^ k)).toArray⟩ ∧ Lib.nDigits (b ^ k) ≤ 400 ∧ Below w.heap.size w wr) (fun _ i _ => n - (intOf i).toNat)
  case atStart => exact ⟨0, rfl, Nat.zero_le _, by rw [Nat.pow_zero, dec_small (by omega)]; rfl, by rw [Nat.pow_zero]; have := rdig_lt 0 1 (by omega); omega, Below.refl _ _⟩
  case round =>
    obtain ⟨k, rfl, hk, rfl, hlen, hB⟩ := hrel
    by_cases hlt : k < n
    · have hOf := rOf_calls b (by omega) wr
      have hmul := fun w => rmul_dec (b ^ k) b (by omega) (by omega) w
      rw [← Nat.pow_succ] at hmul
      have hup : ¬ Lib.nDigits (b ^ (k + 1)) ≤ 400 → ¬ Lib.nDigits (b ^ n) ≤ 400 := rpow_up hlt
      have hd := size_dec (b ^ (k + 1))
      obtain ⟨d, hdd⟩ : ∃ d, Lib.nDigits (b ^ (k + 1)) = d := ⟨_, rfl⟩
      rw [hdd] at hd hup
      obtain ⟨s1, hs1⟩ : ∃ s1 : ByteArray, ⟨(Lib.decDigits (b ^ (k + 1))).toArray⟩ = s1 := ⟨_, rfl⟩
      rw [hs1] at hmul hd
      obtain ⟨s0, hs0⟩ : ∃ s0 : ByteArray, ⟨(Lib.decDigits (b ^ k)).toArray⟩ = s0 := ⟨_, rfl⟩
      rw [hs0] at hmul
      obtain ⟨sb, hsb⟩ : ∃ sb : ByteArray, ⟨(Lib.decDigits b).toArray⟩ = sb := ⟨_, rfl⟩
      rw [hsb] at hmul hOf
      rw [hs0]
      have HX := hid (And.intro hs1 (And.intro hdd hup))
      by_cases hd4 : d ≤ 400
      · have hs4 : (s1.size : Int) ≤ 400 := by omega
        clear hs1 hs0 hsb hdd hup hd
        go_wp2_with (first
          | (go_at_call 34; refine hOf.mono ?_; rintro e w1 ⟨rfl, hb1⟩)
          | (go_at_call 29; refine (hmul _).mono ?_; rintro e w2 ⟨rfl, hb2⟩))
        go_roundw
        case rel => exact ⟨k + 1, by simp, hlt, congrArg Value.string HX.out.1.symm, by rw [HX.out.2.1]; exact hd4, hB.trans ((hb1.mono hB.size).trans (hb2.mono (Nat.le_trans hB.size hb1.size)))⟩
        case measure => simp [intOf]; omega
      · have hs4 : (400 : Int) < (s1.size : Int) := by omega
        clear hs1 hs0 hsb hdd hup hd
        go_wp2_with (first
          | (go_at_call 34; refine hOf.mono ?_; rintro e w1 ⟨rfl, hb1⟩)
          | (go_at_call 29; refine (hmul _).mono ?_; rintro e w2 ⟨rfl, hb2⟩))
        go_ret2
        have h := HX.out.2.2 hd4
        exact ⟨by rw [show fitS (b ^ n) = [] from if_neg h, show fitE (b ^ n) = 11 from if_neg h]; rfl, hB.trans ((hb1.mono hB.size).trans (hb2.mono (Nat.le_trans hB.size hb1.size)))⟩
    · obtain rfl : k = n := by omega
      have HX := hid (show fitS (b ^ k) = Lib.decDigits (b ^ k) ∧ fitE (b ^ k) = 0 from ⟨if_pos hlen, if_pos hlen⟩)
      go_wp2
      go_ret2
      exact ⟨by rw [HX.out.1, HX.out.2]; rfl, hB⟩

set_option maxRecDepth 100000 in
theorem rPower_calls (b : Nat) (hb32 : b < 4294967296) (x : Int) (w : World) :
    Calls Tryd.prog 16 #[.int .u32 b, .int .i64 x] w fun e w' => e = .returned (.tuple #[.string ⟨(powS b x).toArray⟩, .int .i64 (powE b x)]) ∧ Below w.heap.size w w' := by
  by_cases h : 0 ≤ x ∧ x ≤ 400
  · obtain ⟨n, rfl⟩ := Int.eq_ofNat_of_zero_le h.1
    have := rPower_in b n hb32 (by omega) w
    unfold powS powE
    rw [if_pos h, if_pos h]
    exact this
  · have HX := hid (show powS b x = [] ∧ powE b x = 10 from ⟨if_neg h, if_neg h⟩)
    have hc : x < 0 ∨ (0 ≤ x ∧ 400 < x) := by omega
    clear h
    rcases hc with h | ⟨h, h2⟩
    all_goals (
      go_enter Tryd.func16, Tryd.ntmps16
      go_wp2
      go_ret2
      exact ⟨by rw [HX.out.1, HX.out.2]; rfl, Below.refl _ _⟩)
end Go.Proofs.YtdppcpiepippoaaDoor
