/- Package nat: limb, trim, small, the two iterators (groups, slices.Backward), cmp.Compare. -/
import Derived.Test.YtdppcpiepippoaaGreatDoorStd
import Derived.RangeFuncNested
import Derived.RangeFuncBound
import Derived.RangeFuncCalls
import Derived.RangeFuncLeaves
import Derived.Shelf.Abstract
import Derived.Shelf.RegionOpen
import Derived.OwnWalkIn
import Derived.TacticsInMore
import Derived.LoopNIn
import Derived.LoopIn
import Derived.Maps.AppendAt
namespace Go.Proofs.YtdppcpiepippoaaGreatDoor
open Go.RowKit Go.Shelf
attribute [local go_sem] Oper.semAt_some

theorem limb_past (a : Option Addr) (n cap : Nat) (i : Int) (w : World) (h : (n : Int) ≤ i) :
    Calls Tryz.prog 41 #[.slice a n cap, .int .i64 i] w fun e w' => e = .returned (.int .u64 0) ∧ w = w' := by
  go_enter Tryz.func41, Tryz.ntmps41
  go_wp2
  go_ret
  exact ⟨rfl, rfl⟩

theorem limb_in (b off n cap i : Nat) (x : Int) (w : World) (h : i < n) (hx0 : 0 ≤ x) (hx : x < 4294967296) (hc : w.cell? ⟨b, off + i, none⟩ = some (.int .u32 x)) :
    Calls Tryz.prog 41 #[.slice (some ⟨b, off, none⟩) n cap, .int .i64 i] w fun e w' => e = .returned (.int .u64 x) ∧ w = w' := by
  go_enter Tryz.func41, Tryz.ntmps41
  go_wp2
  go_ret
  exact ⟨rfl, rfl⟩

/-- a limb of a slice of limbs. -/
theorem limb_calls (v : Value) (xs : List Nat) (i : Nat) (hg : Grp xs) (w : World) (h : Lim w v xs) :
    Calls Tryz.prog 41 #[v, .int .i64 i] w fun e w' => e = .returned (.int .u64 (xs[i]?.getD 0 : Nat)) ∧ w = w' := by
  obtain ⟨a, cap, rfl, h2, h3, h4⟩ := h
  by_cases hi : i < xs.length
  · obtain ⟨b, off, rfl, _, hc⟩ := h4 (by intro e; rw [e] at hi; simp at hi)
    have := hg i
    exact limb_in b off xs.length cap i _ w hi (by omega) (by omega) (hc i hi)
  · have e : xs[i]?.getD 0 = 0 := by rw [List.getElem?_eq_none (by omega)]; rfl
    rw [e]
    exact limb_past a xs.length cap i w (by omega)

theorem trim_some (b off cap : Nat) (xs : List Nat) (w : World) (hb : xs.length ≤ cap) (hm : cap ≤ maxLen)
    (hc : ∀ j, j < xs.length → w.cell? ⟨b, off + j, none⟩ = some (.int .u32 (xs[j]?.getD 0 : Nat))) :
    Calls Tryz.prog 46 #[.slice (some ⟨b, off, none⟩) xs.length cap] w fun e w' => e = .returned (.slice (some ⟨b, off, none⟩) (trimN xs xs.length) (trimN xs xs.length)) ∧ w = w' := by
  unfold maxLen at hm
  go_enter Tryz.func46, Tryz.ntmps46
  go_wp2
  go_loop [3] (fun n => ∃ k : Nat, k ≤ xs.length ∧ n = .int .i64 k ∧ trimN xs k = trimN xs xs.length) (fun n => (intOf n).toNat)
  case atStart => exact ⟨xs.length, Nat.le_refl _, rfl, rfl⟩
  case round =>
    obtain ⟨k, hk, rfl, ht⟩ := hrel
    cases k with
    | zero =>
      have ht' := hid ht
      clear ht hc
      go_wp2
      go_ret
      exact ⟨ret_val (by rw [← ht'.out]; rfl), rfl⟩
    | succ k =>
      have h1 := hc k (by omega)
      clear hc
      by_cases hz : xs[k]?.getD 0 = 0
      · have ht2 : Hid (trimN xs k = trimN xs xs.length) := by rw [← ht, trimN, if_pos hz]; exact rfl
        rw [hz] at h1
        clear ht hz
        go_wp2
        go_round
        case rel => exact ⟨k, by omega, by go_num, ht2.out⟩
        case measure => simp [intOf]
      · have ht2 : Hid (k + 1 = trimN xs xs.length) := by rw [← ht, trimN, if_neg hz]; exact rfl
        have h4 : ((((xs[k]?.getD 0 : Nat) : Int)) == 0) = false := by simp [hz]
        clear ht
        go_wp2
        go_ret
        exact ⟨ret_val (by rw [← ht2.out]; rfl), rfl⟩

theorem trim_none (a : Option Addr) (cap : Nat) (w : World) :
    Calls Tryz.prog 46 #[.slice a 0 cap] w fun e w' => e = .returned (.slice a 0 0) ∧ w = w' := by
  go_enter Tryz.func46, Tryz.ntmps46
  go_wp2
  refine wp_loop_rounds 1 ?_
  rw [rounds_succ]
  go_wp2
  go_ret
  exact ⟨rfl, rfl⟩

/-- trim: the number's own limbs. -/
theorem trim_at (v : Value) (xs : List Nat) (hg : Grp xs) (w : World) (h : Lim w v xs) :
    ∃ v', Lim w v' (lim (val xs)) ∧ Calls Tryz.prog 46 #[v] w fun e w' => e = .returned v' ∧ w' = w := by
  obtain ⟨a, cap, rfl, h2, h3, h4⟩ := h
  by_cases hne : xs = []
  · subst hne
    refine ⟨.slice a 0 0, ?_, (trim_none a cap w).mono fun e w' ⟨he, hw⟩ => ⟨he, hw.symm⟩⟩
    rw [val, lim_zero]
    exact ⟨a, 0, rfl, Nat.le_refl _, ⟨by simp [maxLen], fun k hk => h3.2 k (by rw [ownBlock_slice] at hk ⊢; exact hk)⟩, fun h => absurd rfl h⟩
  · obtain ⟨b, off, rfl, hb, hc⟩ := h4 hne
    refine ⟨_, ?_, (trim_some b off cap xs w h2 h3.1 hc).mono fun e w' ⟨he, hw⟩ => ⟨he, hw.symm⟩⟩
    have ht := trimN_all hg
    have hl := trimN_le xs xs.length
    have hlen : (lim (val xs)).length = trimN xs xs.length := by rw [← ht, List.length_take]; omega
    refine ⟨_, _, by rw [hlen], by rw [hlen]; exact Nat.le_refl _, ⟨by have := h3.1; omega, h3.2⟩, fun _ => ⟨b, off, rfl, hb, fun j hj => ?_⟩⟩
    rw [hc j (by omega), ← ht, List.getElem?_take_of_lt (by omega)]

theorem trim_calls (v : Value) (xs : List Nat) (hg : Grp xs) (w : World) (h : Lim w v xs) :
    Calls Tryz.prog 46 #[v] w fun e w' => (∃ v', e = .returned v' ∧ Lim w v' (lim (val xs))) ∧ w = w' := by
  obtain ⟨v', h1, h2⟩ := trim_at v xs hg w h
  exact h2.mono fun e w' ⟨he, hw⟩ => ⟨⟨v', he, h1⟩, hw.symm⟩

theorem info_u32 : (Tryz.prog.info? 37).map (fun i => (i.zero, i.size, i.bytes)) = some (some (.int .u32 0), 1, 4) := by kernel_rfl

theorem lim_bound {n k : Nat} (h : n < 1000000000 ^ k) : (lim n).length ≤ k := lim_len.2 h

/-- small: a number's limbs. -/
theorem small_calls (n : Nat) (hn : n < 18446744073709551616) (w : World) :
    Calls Tryz.prog 31 #[.int .u64 n] w fun e w' => (∃ v', e = .returned v' ∧ Lim w' v' (lim n)) ∧ Below w.heap.size w w' := by
  obtain ⟨i0, hi, hz0, hz1, hz2⟩ := info_parts info_u32
  go_enter Tryz.func31, Tryz.ntmps31
  go_wp2
  go_loopw [0, 3] (fun m v wr => ∃ (k : Nat) (xs : List Nat), m = .int .u64 k ∧ k ≤ n ∧ xs ++ lim k = lim n ∧ wr.ownsRow w.heap.size 37 1 v xs.length (xs.map fun x => Value.int .u32 (x : Nat)) ∧ Below w.heap.size w wr) (fun m _ _ => (intOf m).toNat)
  case atStart => exact ⟨n, [], rfl, Nat.le_refl _, rfl, World.ownsRow_nil _ _ _ _, Below.refl _ _⟩
  case round =>
    obtain ⟨k, xs, rfl, hk, hx, hown, hb⟩ := hrel
    have hxb : xs.length ≤ 3 := by
      have h1 := congrArg List.length hx
      have h2 := lim_bound (n := n) (k := 3) (by omega)
      rw [List.length_append] at h1
      omega
    have hx' := hid hx
    clear hx
    by_cases h0 : k = 0
    · subst h0
      go_wp2
      go_ret
      have hx := hx'.out
      rw [lim_zero, List.append_nil] at hx
      subst hx
      exact ⟨⟨_, rfl, Lim.of_owns hown⟩, hb⟩
    · have hpos : 0 < k := by omega
      have hpos' : (0 : Int) < (k : Int) := by omega
      clear h0
      go_wp2_with (at_builtin; refine wpList_append_own _ rfl _ _ 46 rfl w.heap.size 37 i0 (.int .u32 0) 1 4 Tryz.underlying46 hi hz0 hz1 hz2 rfl (by decide) _ _ _ rfl (hown.alloc _) ⟨wr.heap.size, 0, none⟩ 1 1 [.int .u32 ((k : Int) % 1000000000)] rfl rfl ?c1 ?c2 ?c3 ?c4 ?c5 ?_)
      case c1 => exact cell_one_new _ _ _
      case c2 => simp [Value.oneCell']
      case c3 => have := hxb; simp only [maxLen]; omega
      case c4 => have := hxb; omega
      case c5 => have := hb.size; simp; omega
      intro v' w1 hown' hgrow _
      have hcast : ((k : Int) % 1000000000) = ((k % 1000000000 : Nat) : Int) := by omega
      have hcast2 : ((k : Int) / 1000000000) = ((k / 1000000000 : Nat) : Int) := by omega
      have hB1 : Below w.heap.size w w1 := (hb.alloc hb.size _).grown hgrow (by have := hb.size; simp; omega) (fun j e => (hown.lt j e).1)
      have hx3 : Hid ((xs ++ [k % 1000000000]) ++ lim (k / 1000000000) = lim n) := by
        have := hx'.out
        rw [lim_pos (by omega)] at this
        show _ = _
        rw [List.append_assoc]; exact this
      have hown3 := hid (show w1.ownsRow w.heap.size 37 1 v' (xs ++ [k % 1000000000]).length ((xs ++ [k % 1000000000]).map fun x => Value.int .u32 (x : Nat)) from by
        rw [hcast] at hown'
        simpa using hown')
      have hcast2' := hid hcast2
      clear hx' hown hown' hcast hcast2 hgrow hb
      go_wp2
      go_roundw
      case rel => exact ⟨k / 1000000000, xs ++ [k % 1000000000], by rw [← hcast2'.out], by omega, hx3.out, hown3.out, hB1⟩
      case measure => simp [intOf]; omega

/-! ### cmp.Compare -/
def cmpI (x y : Int) : Int := if x < y then -1 else if y < x then 1 else 0

theorem cmp_int (x y : Int) (w : World) :
    Calls Tryz.prog 51 #[.int .i64 x, .int .i64 y] w fun e w' => e = .returned (.int .i64 (cmpI x y)) ∧ w = w' := by
  have h1 : (x == x) = true := by simp
  have h2 : (y == y) = true := by simp
  rcases Int.lt_trichotomy x y with h | h | h
  · have hf : Hid (cmpI x y = -1) := by unfold cmpI; rw [if_pos h]; exact rfl
    go_enter Tryz.func51, Tryz.ntmps51
    go_wp2
    go_ret
    exact ⟨ret_int hf.out.symm, rfl⟩
  · subst h
    have hf : Hid (cmpI x x = 0) := by unfold cmpI; rw [if_neg (by omega), if_neg (by omega)]; exact rfl
    go_enter Tryz.func51, Tryz.ntmps51
    go_wp2
    go_ret
    exact ⟨ret_int hf.out.symm, rfl⟩
  · have hf : Hid (cmpI x y = 1) := by unfold cmpI; rw [if_neg (by omega), if_pos h]; exact rfl
    go_enter Tryz.func51, Tryz.ntmps51
    go_wp2
    go_ret
    exact ⟨ret_int hf.out.symm, rfl⟩

theorem cmp_u32 (x y : Int) (w : World) :
    Calls Tryz.prog 52 #[.int .u32 x, .int .u32 y] w fun e w' => e = .returned (.int .i64 (cmpI x y)) ∧ w = w' := by
  have h1 : (x == x) = true := by simp
  have h2 : (y == y) = true := by simp
  rcases Int.lt_trichotomy x y with h | h | h
  · have hf : Hid (cmpI x y = -1) := by unfold cmpI; rw [if_pos h]; exact rfl
    go_enter Tryz.func52, Tryz.ntmps52
    go_wp2
    go_ret
    exact ⟨ret_int hf.out.symm, rfl⟩
  · subst h
    have hf : Hid (cmpI x x = 0) := by unfold cmpI; rw [if_neg (by omega), if_neg (by omega)]; exact rfl
    go_enter Tryz.func52, Tryz.ntmps52
    go_wp2
    go_ret
    exact ⟨ret_int hf.out.symm, rfl⟩
  · have hf : Hid (cmpI x y = 1) := by unfold cmpI; rw [if_neg (by omega), if_pos h]; exact rfl
    go_enter Tryz.func52, Tryz.ntmps52
    go_wp2
    go_ret
    exact ⟨ret_int hf.out.symm, rfl⟩
end Go.Proofs.YtdppcpiepippoaaGreatDoor
