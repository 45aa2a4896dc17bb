/- Package nat: Power, Of, To. -/
import Derived.Test.YtdppcpiepippoaaGreatDoorNatJ
namespace Go.Proofs.YtdppcpiepippoaaGreatDoor
open Go.RowKit Go.Shelf
attribute [local go_sem] Oper.semAt_some

theorem dg_lt (n : Nat) : n < 10 ^ Lib.nDigits n := by
  have h := nv_lt (dec_isDg n)
  rwa [nv_dec, Lib.decDigits_length] at h

/-- more than 45 limbs are more than 400 digits. -/
theorem long_of_lim {n : Nat} (h : 45 < (lim n).length) : ¬ Lib.nDigits n ≤ 400 := by
  intro h2
  have h1 : n < 1000000000 ^ 45 := lt_of_dig (dg_lt n) (by omega)
  have := lim_len.2 h1
  omega
theorem fit_long {n : Nat} (h : 45 < (lim n).length) : fitS n = [] ∧ fitE n = 11 := ⟨if_neg (long_of_lim h), if_neg (long_of_lim h)⟩
theorem lim_mono {a b : Nat} (h : a ≤ b) : (lim a).length ≤ (lim b).length :=
  lim_len.2 (Nat.lt_of_le_of_lt h (lim_len.1 (Nat.le_refl _)))

theorem lim_one : lim 1 = [1] := by rw [lim_pos (by decide)]; rw [show 1 / 1000000000 = 0 from rfl, lim_zero]

theorem pow_up {b k n : Nat} (hk : k ≤ n) (h : 45 < (lim (b ^ k)).length) : 45 < (lim (b ^ n)).length := by
  by_cases hb : b = 0
  · subst hb
    cases k with
    | zero => rw [Nat.pow_zero, lim_one] at h; simp at h
    | succ k => rw [Nat.pow_succ, Nat.mul_zero, lim_zero] at h; simp at h
  · have := lim_mono (Nat.pow_le_pow_right (n := b) (by omega) hk)
    omega

set_option maxRecDepth 100000 in
set_option maxHeartbeats 4000000 in
theorem natPower_in (b n : Nat) (hb32 : b < 4294967296) (hn : n ≤ 400) (w : World) (hT : Tabs w) :
    Calls Tryz.prog 24 #[.int .u32 b, .int .i64 n] w fun e w' => e = .returned (.tuple #[.string ⟨(fitS (b ^ n)).toArray⟩, .int .i64 (fitE (b ^ n))]) ∧ Below w.heap.size w w' := by
  have hsm : (lim b).length ≤ 2 := lim_len.2 (by omega)
  have hwb : IntKind.u64.wrap (b : Int) = (b : Int) := IntWalk.u64_in _ (by omega)
  go_enter Tryz.func24, Tryz.ntmps24
  go_wp2
  go_loopw [6, 15] (fun v i wr => ∃ (k : Nat), i = .int .i64 k ∧ k ≤ n ∧ Lim wr v (lim (b ^ k)) ∧ (lim (b ^ k)).length ≤ 45 ∧ Below w.heap.size w wr) (fun _ i _ => n - (intOf i).toNat)
  case atStart =>
    refine ⟨0, rfl, Nat.zero_le _, ?_, ?_, below_alloc w _⟩
    · rw [Nat.pow_zero, lim_one]
      have h := Cls.new w 37 [.int .u32 1]
      exact ⟨_, 1, rfl, Nat.le_refl _, ⟨by simp [maxLen], fun k hk => by simp [Value.ownBlock] at hk; rw [← hk]; exact ⟨_, _, h⟩⟩, fun _ => ⟨w.heap.size, 0, rfl, h.lt, fun j hj => by
        match j, hj with
        | 0, _ => exact h.cell 0 rfl⟩⟩
    · rw [Nat.pow_zero, lim_one]; simp
  case round =>
    obtain ⟨k, rfl, hk, hL, hlen, hB⟩ := hrel
    by_cases hlt : k < n
    · have hlt' : (k : Int) < (n : Int) := by omega
      have hsmall := small_calls b (by omega) wr
      have hlen2 : (lim (b ^ (k + 1))).length ≤ 47 := by rw [Nat.pow_succ]; exact lim_mul_len hlen hsm
      have hmul : ∀ w2 v', Below wr.heap.size wr w2 → Lim w2 v' (lim b) → Calls Tryz.prog 30 #[u6, v'] w2 fun e w' => (∃ v'', e = .returned v'' ∧ Lim w' v'' (lim (b ^ (k + 1)))) ∧ Below w2.heap.size w2 w' := fun w2 v' h1 h2 => by
        have h := mul_calls u6 v' _ _ w2 (hL.below h1) h2 (by omega) (by omega)
        rwa [← Nat.pow_succ] at h
      obtain ⟨c, hc⟩ : ∃ c, (lim (b ^ (k + 1))).length = c := ⟨_, rfl⟩
      have HC := hid hc
      rw [hc] at hlen2
      have htest : (c : Int) ≤ 45 ∨ (45 : Int) < (c : Int) := by omega
      clear hc
      rcases htest with htest | htest
      · go_wp2_with (first
          | (go_at_call 31; refine hsmall.mono ?_; rintro e w2 ⟨⟨v', rfl, hv'⟩, hb2⟩)
          | (go_at_call 30; refine (hmul _ _ hb2 hv').mono ?_; rintro e w3 ⟨⟨v'', rfl, hv''⟩, hb3⟩; obtain ⟨a'', c'', rfl, _⟩ := id hv''; rw [HC.out]))
        rw [HC.out] at hv''
        exact ⟨⟨k + 1, by simp, hlt, hv'', by rw [HC.out]; omega, hB.trans ((hb2.mono hB.size).trans (hb3.mono (Nat.le_trans hB.size hb2.size)))⟩, by simp [intOf]; omega⟩
      · go_wp2_with (first
          | (go_at_call 31; refine hsmall.mono ?_; rintro e w2 ⟨⟨v', rfl, hv'⟩, hb2⟩)
          | (go_at_call 30; refine (hmul _ _ hb2 hv').mono ?_; rintro e w3 ⟨⟨v'', rfl, hv''⟩, hb3⟩; obtain ⟨a'', c'', rfl, _⟩ := id hv''; rw [HC.out]))
        go_ret2
        have hl := fit_long (pow_up (b := b) (show k + 1 ≤ n from hlt) (by rw [HC.out]; omega))
        exact ⟨by rw [hl.1, hl.2]; rfl, hB.trans ((hb2.mono hB.size).trans (hb3.mono (Nat.le_trans hB.size hb2.size)))⟩
    · obtain rfl : k = n := by omega
      have hends := ends_at u6 _ (by omega) wr (hT.below hB) hL
      go_wp2_with (go_at_call 32; refine hends.mono ?_; rintro e w2 ⟨rfl, hb2⟩)
      go_ret2
      exact ⟨rfl, hB.trans (hb2.mono hB.size)⟩

set_option maxRecDepth 100000 in
theorem natPower_calls (b : Nat) (x : Int) (hb32 : b < 4294967296) (w : World) (hT : Tabs w) :
    Calls Tryz.prog 24 #[.int .u32 b, .int .i64 x] w fun e w' => e = .returned (.tuple #[.string ⟨(powS b x).toArray⟩, .int .i64 (powE b x)]) ∧ Below w.heap.size w w' := by
  by_cases h : 0 ≤ x ∧ x ≤ 400
  · have h2 := natPower_in b x.toNat hb32 (by omega) w hT
    rw [show ((x.toNat : Nat) : Int) = x from by omega] at h2
    unfold powS powE
    rw [if_pos h, if_pos h]
    exact h2
  · have hS : Hid ([] = powS b x ∧ (10 : Int) = powE b x) := ⟨(if_neg h).symm, (if_neg h).symm⟩
    by_cases hx : x < 0
    · clear h
      go_enter Tryz.func24, Tryz.ntmps24
      go_wp2
      go_ret2
      exact ⟨by rw [← hS.out.1, ← hS.out.2]; rfl, Below.refl _ _⟩
    · have hx0 : 0 ≤ x := by omega
      have hx4 : 400 < x := by omega
      clear h hx
      go_enter Tryz.func24, Tryz.ntmps24
      go_wp2
      go_ret2
      exact ⟨by rw [← hS.out.1, ← hS.out.2]; rfl, Below.refl _ _⟩

theorem natOf_calls (n : Nat) (hn : n < 18446744073709551616) (w : World) (hT : Tabs w) :
    Calls Tryz.prog 13 #[.int .u64 n] w fun e w' => e = .returned (.string ⟨(Lib.decDigits n).toArray⟩) ∧ Below w.heap.size w w' := by
  have h := formatUint n hn w hT
  go_enter Tryz.func13, Tryz.ntmps13
  go_wp2_with (go_at_call 38; refine h.mono ?_; rintro e w' ⟨rfl, hb⟩)
  go_ret
  exact ⟨rfl, hb⟩

def toN (s : ByteArray) : Nat := if isRt (tx s) && decide (nv (tx s) < 18446744073709551616) then nv (tx s) else 0
def toB (s : ByteArray) : Bool := isRt (tx s) && decide (nv (tx s) < 18446744073709551616)

set_option maxRecDepth 100000 in
theorem natTo_calls (s : ByteArray) (hs : s.size ≤ 140737488355328) (w : World) (hT : Tabs w) :
    Calls Tryz.prog 11 #[.string s] w fun e w' => e = .returned (.tuple #[.int .u64 (toN s), .bool (toB s)]) ∧ Below w.heap.size w w' := by
  have hright := right_calls s w hs
  cases hr : isRt s.data.toList with
  | false =>
    have hS : Hid ((0 : Nat) = toN s ∧ false = toB s) := by unfold toN toB tx; rw [hr]; exact ⟨rfl, rfl⟩
    rw [hr] at hright
    clear hr
    go_enter Tryz.func11, Tryz.ntmps11
    go_wp2_with (go_at_call 21; refine hright.mono ?_; rintro e w' ⟨rfl, hb⟩)
    go_ret2
    exact ⟨by rw [← hS.out.1, ← hS.out.2]; rfl, hb⟩
  | true =>
    rw [hr] at hright
    have hrt := (isRt_iff _).1 hr
    have hne : s.data.toList ≠ [] := by rw [hrt.1]; exact dec_ne_nil _
    have hdg : ∀ c ∈ s.data.toList, isDg c = true := fun c hc => by rw [hrt.1] at hc; exact dec_isDg _ c hc
    have hp := parse64 hne hdg
    by_cases hlt : nv s.data.toList < 18446744073709551616
    · rw [if_pos hlt] at hp
      have hS : Hid (nv s.data.toList = toN s ∧ true = toB s) := by unfold toN toB tx; rw [hr, decide_eq_true hlt]; exact ⟨rfl, rfl⟩
      obtain ⟨n, hn⟩ : ∃ n, nv s.data.toList = n := ⟨_, rfl⟩
      rw [hn] at hp hS
      clear hr hrt hne hdg hlt hn
      go_enter Tryz.func11, Tryz.ntmps11
      go_wp2_with (first
        | (go_at_call 21; refine hright.mono ?_; rintro e w' ⟨rfl, hb⟩)
        | (go_at_call 36; refine (Tryz.strconv_ParseUint_10_at64_ok s (by omega) n hp _).mono ?_; rintro e w2 ⟨rfl, hw2⟩))
      go_ret2
      refine ⟨by rw [← hS.out.1, ← hS.out.2]; rfl, hb.trans ?_⟩
      rcases hw2 with rfl | rfl
      · exact (Below.refl _ _).mono hb.size
      · exact (Lib.bytesWorld_below _ _ s).mono hb.size
    · rw [if_neg hlt] at hp
      have hS : Hid ((0 : Nat) = toN s ∧ false = toB s) := by unfold toN toB tx; rw [hr, decide_eq_false hlt]; exact ⟨rfl, rfl⟩
      clear hr hrt hne hdg hlt
      obtain ⟨tp, p, hvar⟩ := hT.2
      go_enter Tryz.func11, Tryz.ntmps11
      go_wp2_with (first
        | (go_at_call 21; refine hright.mono ?_; rintro e w' ⟨rfl, hb⟩)
        | (go_at_call 36; refine (Tryz.strconv_ParseUint_10_at64_range_var s (by omega) hp tp p _ (var_kept range_glob hvar hb)).mono ?_; rintro e w2 ⟨N, rfl, _, _, hw2⟩))
      go_ret2
      exact ⟨by rw [← hS.out.1, ← hS.out.2]; rfl, hb.trans (hw2.mono hb.size)⟩
end Go.Proofs.YtdppcpiepippoaaGreatDoor
