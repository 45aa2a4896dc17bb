/- Package nat: OfBytes. -/
import Derived.Test.YtdppcpiepippoaaGreatDoorNatM
namespace Go.Proofs.YtdppcpiepippoaaGreatDoor
open Go.RowKit Go.Shelf
attribute [local go_sem] Oper.semAt_some

/-- the number of bytes. -/
def bv (l : List UInt8) : Nat := l.foldl (fun a c => a * 256 + c.toNat) 0
theorem bv_snoc (l : List UInt8) (c : UInt8) : bv (l ++ [c]) = bv l * 256 + c.toNat := by unfold bv; rw [List.foldl_append]; rfl
theorem bv_take {l : List UInt8} {k : Nat} (h : k < l.length) : bv (l.take (k + 1)) = bv (l.take k) * 256 + (l[k]'h).toNat := by
  rw [List.take_succ_eq_append_getElem h, bv_snoc]
theorem bv_le (l : List UInt8) : ∀ k : Nat, bv (l.take k) ≤ bv l := by
  have step : ∀ k, bv (l.take k) ≤ bv (l.take (k + 1)) := fun k => by
    by_cases h : k < l.length
    · rw [bv_take h]; omega
    · rw [List.take_of_length_le (by omega), List.take_of_length_le (by omega)]; exact Nat.le_refl _
  intro k
  by_cases h : k ≤ l.length
  · have : ∀ d, bv (l.take k) ≤ bv (l.take (k + d)) := fun d => by
      induction d with
      | zero => exact Nat.le_refl _
      | succ d ih => exact Nat.le_trans ih (step (k + d))
    have h2 := this (l.length - k)
    rwa [show k + (l.length - k) = l.length by omega, List.take_length] at h2
  · rw [List.take_of_length_le (by omega)]; exact Nat.le_refl _

def ofbS (s : ByteArray) : List UInt8 := if (tx s).head? = some 0 then [] else fitS (bv (tx s))
def ofbE (s : ByteArray) : Int := if (tx s).head? = some 0 then 10 else fitE (bv (tx s))

theorem byte0 (c : UInt8) : c = 0 ↔ ((c.toNat : Nat) : Int) = 0 := by
  rw [← UInt8.toNat_inj]
  constructor
  · intro h; rw [h]; rfl
  · intro h
    have : c.toNat = 0 := by omega
    rw [this]; rfl

theorem lim_256 : lim 256 = [256] := by rw [lim_pos (by decide)]; rw [show 256 / 1000000000 = 0 from rfl, lim_zero]

theorem lim_lit (w : World) (x : Nat) (n : Nat) (h : lim n = [x]) : Lim (w.alloc (.cells #[.int .u32 (x : Nat)] 37)) (.slice (some ⟨w.heap.size, 0, none⟩) 1 1) (lim n) := by
  have hC := Cls.new w 37 [.int .u32 (x : Nat)]
  rw [h]
  exact ⟨_, 1, rfl, Nat.le_refl _, ⟨by simp [maxLen], fun k hk => by simp [Value.ownBlock] at hk; rw [← hk]; exact ⟨_, _, hC⟩⟩, fun _ => ⟨w.heap.size, 0, rfl, hC.lt, fun j hj => by
    match j, hj with
    | 0, _ => exact hC.cell 0 rfl⟩⟩

theorem tx_get (s : ByteArray) {k : Nat} (h : k < s.size) : (tx s)[k]'(by unfold tx; rw [len_str]; exact h) = s[k] := rfl

set_option maxRecDepth 100000 in
set_option maxHeartbeats 4000000 in
theorem natOfBytes_calls (s : ByteArray) (hs : s.size ≤ 140737488355328) (w : World) (hT : Tabs w) :
    Calls Tryz.prog 9 #[.string s] w fun e w' => e = .returned (.tuple #[.string ⟨(ofbS s).toArray⟩, .int .i64 (ofbE s)]) ∧ Below w.heap.size w w' := by
  have hprog : Tryz.prog.follows .mixedOrders = true := by kernel_rfl
  have hlen : (tx s).length = s.size := len_str s
  by_cases hz : (tx s).head? = some 0
  · have hS : Hid ([] = ofbS s ∧ (10 : Int) = ofbE s) := ⟨(if_pos hz).symm, (if_pos hz).symm⟩
    have hpos : 0 < s.size := by
      rw [← hlen]
      cases h : tx s with
      | nil => rw [h] at hz; cases hz
      | cons a r => simp
    obtain ⟨h1, h2⟩ := ne_of s (by omega)
    have hb0 : (((s[0].toNat : Nat) : Int) == 0) = true := by
      have := head_of s hpos
      rw [show s.data.toList.head? = some 0 from hz] at this
      rw [beq_iff_eq]
      exact (byte0 _).1 (Option.some.inj this).symm
    clear hz hlen
    go_enter Tryz.func9, Tryz.ntmps9
    go_wp2
    go_ret2
    exact ⟨by rw [← hS.out.1, ← hS.out.2]; rfl, Below.refl _ _⟩
  have hS : Hid (fitS (bv (tx s)) = ofbS s ∧ fitE (bv (tx s)) = ofbE s) := ⟨(if_neg hz).symm, (if_neg hz).symm⟩
  by_cases h0 : s.size = 0
  · obtain ⟨h1, h2⟩ := emp_of s h0
    have hv : bv (tx s) = 0 := by rw [show tx s = [] from h2]; rfl
    rw [hv] at hS
    have hends := ends_at (.slice none 0 0) 0 (by rw [lim_zero]; simp) w hT (by rw [lim_zero]; exact Lim.nil w)
    have h0i : (s.size : Int) = 0 := by omega
    clear hz hlen h2 hv
    go_enter Tryz.func9, Tryz.ntmps9
    go_wp2
    refine wp_loop_rounds 1 ?_
    rw [rounds_succ]
    go_wp2_with (go_at_call 32; refine hends.mono ?_; rintro e w2 ⟨rfl, hb2⟩)
    go_ret2
    exact ⟨by rw [← hS.out.1, ← hS.out.2]; rfl, hb2⟩
  obtain ⟨h1, h2⟩ := ne_of s h0
  have hpos : 0 < s.size := by omega
  have hb0 : (((s[0].toNat : Nat) : Int) == 0) = false := by
    have := head_of s hpos
    rw [show s.data.toList.head? = (tx s).head? from rfl] at this
    rw [beq_eq_false_iff_ne]
    intro e
    exact hz (this.trans (congrArg some ((byte0 _).2 e)))
  clear hz
  go_enter Tryz.func9, Tryz.ntmps9
  go_wp2
  go_loopw [4, 15] (fun v i wr => ∃ (k : Nat), i = .int .i64 k ∧ k ≤ s.size ∧ Lim wr v (lim (bv ((tx s).take k))) ∧ (lim (bv ((tx s).take k))).length ≤ 45 ∧ Below w.heap.size w wr) (fun _ i _ => s.size - (intOf i).toNat)
  case atStart => exact ⟨0, rfl, Nat.zero_le _, by rw [List.take_zero]; rw [show bv [] = 0 from rfl, lim_zero]; exact Lim.nil w, by rw [List.take_zero, show bv [] = 0 from rfl, lim_zero]; simp, Below.refl _ _⟩
  case round =>
    obtain ⟨k, rfl, hk, hL, hlen4, hB⟩ := hrel
    by_cases hlt : k < s.size
    · have hlt' : (k : Int) < (s.size : Int) := by omega
      obtain ⟨ch, hch⟩ : ∃ ch, s[k] = ch := ⟨_, rfl⟩
      have hstep : bv ((tx s).take (k + 1)) = bv ((tx s).take k) * 256 + ch.toNat := by rw [bv_take (by omega), ← hch]; rfl
      have hmon := bv_le (tx s) (k + 1)
      obtain ⟨m, hm⟩ : ∃ m, bv ((tx s).take k) = m := ⟨_, rfl⟩
      rw [hm] at hstep hL hlen4
      have hchb : ch.toNat < 256 := ch.toNat_lt
      have hl2 : (lim (m * 256)).length ≤ 46 := lim_mul_len (k := 45) (l := 1) hlen4 (lim_len.2 (by decide))
      have hl3 : (lim ch.toNat).length ≤ 1 := lim_len.2 (by omega)
      have hmul : ∀ w2 v', Below wr.heap.size wr w2 → Lim w2 v' (lim 256) → Calls Tryz.prog 30 #[u4, v'] w2 fun e w' => (∃ v'', e = .returned v'' ∧ Lim w' v'' (lim (m * 256))) ∧ Below w2.heap.size w2 w' := fun w2 v' h1 h2 =>
        mul_calls u4 v' _ _ w2 (hL.below h1) h2 (by omega) (by rw [lim_256]; simp)
      have hsm : ∀ w2, Calls Tryz.prog 31 #[.int .u64 (ch.toNat : Nat)] w2 fun e w' => (∃ v', e = .returned v' ∧ Lim w' v' (lim ch.toNat)) ∧ Below w2.heap.size w2 w' := fun w2 => small_calls _ (by omega) w2
      have hlit := lim_lit wr.drew 256 256 lim_256
      have hbel : Below wr.heap.size wr (wr.drew.alloc (.cells #[.int .u32 (256 : Nat)] 37)) := (Below.refl _ wr).drew.alloc (Nat.le_refl _) _
      obtain ⟨c, hc⟩ : ∃ c, (lim (m * 256 + ch.toNat)).length = c := ⟨_, rfl⟩
      have hcb : c ≤ 47 := by
        rw [← hc]
        have h1 := lim_len.1 hl2
        refine lim_len.2 ?_
        have : (1000000000 : Nat) ^ 47 = 1000000000 ^ 46 * 1000000000 := Nat.pow_succ ..
        rw [this]
        generalize (1000000000 : Nat) ^ 46 = P at *
        omega
      obtain ⟨y, hy⟩ : ∃ y : Nat, ch.toNat = y := ⟨_, rfl⟩
      rw [hy] at hsm hl3 hstep hc hchb
      have hadd : ∀ w2 v v', Lim w2 v (lim (m * 256)) → Lim w2 v' (lim y) → Calls Tryz.prog 29 #[v, v'] w2 fun e w' => (∃ v'', e = .returned v'' ∧ Lim w' v'' (lim (m * 256 + y))) ∧ Below w2.heap.size w2 w' := fun w2 v v' h1 h2 =>
        add_calls v v' _ _ w2 h1 h2 (by omega) (by omega)
      have hwy : IntKind.u64.wrap (y : Int) = (y : Int) := IntWalk.u64_in _ (by omega)
      have HX := hid (And.intro hstep (And.intro hmon (And.intro hc (And.intro hm (And.intro hch hy)))))
      have hchi : ((s[k].toNat : Nat) : Int) = (y : Int) := by rw [hch, hy]
      have htest : (c : Int) ≤ 45 ∨ (45 : Int) < (c : Int) := by omega
      clear hstep hmon hc hm
      go_wp2
      go_region_with (first
        | (go_at_call 30; refine (hmul _ _ hbel hlit).mono ?_; rintro e w2 ⟨⟨v2, rfl, hv2⟩, hb2⟩)
        | (go_at_call 31; refine (hsm _).mono ?_; rintro e w3 ⟨⟨v3, rfl, hv3⟩, hb3⟩)
        | (go_at_call 29; refine (hadd _ _ _ (hv2.below hb3) hv3).mono ?_; rintro e w4 ⟨⟨v4, rfl, hv4⟩, hb4⟩))
      all_goals (
        obtain ⟨a4, c4, rfl, _⟩ := id hv4
        obtain ⟨hstep, hmon, hc, hm, -, -⟩ := id HX.out
        have hB4 : Below w.heap.size w w4 := hB.trans ((hbel.mono hB.size).trans ((hb2.mono (Nat.le_trans hB.size hbel.size)).trans ((hb3.mono (Nat.le_trans hB.size (Nat.le_trans hbel.size hb2.size))).trans (hb4.mono (Nat.le_trans hB.size (Nat.le_trans hbel.size (Nat.le_trans hb2.size hb3.size)))))))
        have hlong : 45 < c → fitS (bv (tx s)) = [] ∧ fitE (bv (tx s)) = 11 := fun h => fit_long (by
          have := lim_mono hmon
          rw [hstep, hc] at this
          omega)
        rw [hc] at hv4 ⊢
        have hv5 : Lim w4 (.slice a4 c c4) (lim (bv ((tx s).take (k + 1)))) := by rw [hstep]; exact hv4
        have hc2 : (lim (bv ((tx s).take (k + 1)))).length = c := by rw [hstep]; exact hc
        have HN := hid (And.intro hv5 (And.intro hc2 hlong))
        clear hv4 hv5 hc hc2 hstep hmon hlong hm hmul hsm hadd hlit
        rcases htest with htest | htest
        · go_wp2
          obtain ⟨hv5, hc2, _⟩ := HN.out
          exact ⟨⟨k + 1, by simp, hlt, hv5, by omega, hB4⟩, by simp [intOf]; omega⟩
        · go_wp2
          go_ret2
          have hl := HN.out.2.2 (by omega)
          exact ⟨by rw [← hS.out.1, ← hS.out.2, hl.1, hl.2]; rfl, hB4⟩)
    · obtain rfl : k = s.size := by omega
      rw [show (tx s).take s.size = tx s from List.take_of_length_le (by omega)] at hL hlen4
      have hends := ends_at u4 _ (by omega) wr (hT.below hB) hL
      go_wp2_with (go_at_call 32; refine hends.mono ?_; rintro e w2 ⟨rfl, hb2⟩)
      go_ret2
      exact ⟨by rw [← hS.out.1, ← hS.out.2]; rfl, hB.trans (hb2.mono hB.size)⟩
end Go.Proofs.YtdppcpiepippoaaGreatDoor
