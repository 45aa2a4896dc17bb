/- Package nat: mul. -/
import Derived.Test.YtdppcpiepippoaaGreatDoorNatH
namespace Go.Proofs.YtdppcpiepippoaaGreatDoor
open Go.RowKit Go.Shelf
attribute [local go_sem] Oper.semAt_some

theorem val_set {zs : List Nat} {j : Nat} (x : Nat) (hj : j < zs.length) : val (zs.set j x) + 1000000000 ^ j * zs[j]?.getD 0 = val zs + 1000000000 ^ j * x := by
  have h1 : zs.set j x = zs.take j ++ (x :: zs.drop (j + 1)) := by rw [List.set_eq_take_append_cons_drop, if_pos hj]
  have h2 := val_split hj
  rw [h1, val_append, List.length_take, Nat.min_eq_left (by omega), val, h2]
  generalize val (zs.drop (j + 1)) = d
  simp only [Nat.mul_add]
  omega

/-- THE PLAIN LAW OF A STEP of mul. -/
theorem mul_step {zs : List Nat} {i k c n ai y M : Nat} {bt : Nat} (hj : i + k < zs.length) (h : val zs + 1000000000 ^ (i + k) * c = M + 1000000000 ^ i * (ai * bt)) (hn : n = zs[i + k]?.getD 0 + ai * y + c) :
    val (zs.set (i + k) (n % 1000000000)) + 1000000000 ^ (i + (k + 1)) * (n / 1000000000) = M + 1000000000 ^ i * (ai * (bt + 1000000000 ^ k * y)) := by
  have h1 := val_set (n % 1000000000) hj
  have h2 := Nat.mod_add_div n 1000000000
  have h3 : 1000000000 ^ (i + k) * (n % 1000000000) + 1000000000 ^ (i + (k + 1)) * (n / 1000000000) = 1000000000 ^ (i + k) * n := by
    rw [← Nat.add_assoc, Nat.pow_succ, Nat.mul_assoc, ← Nat.mul_add, h2]
  have h4 : 1000000000 ^ (i + k) * n = 1000000000 ^ (i + k) * zs[i + k]?.getD 0 + 1000000000 ^ (i + k) * (ai * y) + 1000000000 ^ (i + k) * c := by
    rw [hn, Nat.mul_add, Nat.mul_add]
  have h5 : 1000000000 ^ (i + k) * (ai * y) = 1000000000 ^ i * (ai * (1000000000 ^ k * y)) := by
    rw [Nat.pow_add, Nat.mul_assoc, Nat.mul_left_comm (1000000000 ^ k) ai y]
  rw [Nat.mul_add ai, Nat.mul_add (1000000000 ^ i)]
  omega

theorem carry_small {z x y c : Nat} (hz : z < 1000000000) (hx : x < 1000000000) (hy : y < 1000000000) (hc : c < 1000000000) : z + x * y + c ≤ 999999999999999999 ∧ (z + x * y + c) / 1000000000 < 1000000000 := by
  have h : x * y ≤ 999999999 * 999999999 := Nat.mul_le_mul (by omega) (by omega)
  omega

set_option maxRecDepth 100000 in
set_option maxHeartbeats 4000000 in
theorem mul_at (au av : Option Addr) (cu cv : Nat) (xs ys : List Nat) (hgx : Grp xs) (hgy : Grp ys) (w : World) (hx : Lim w (.slice au xs.length cu) xs) (hy : Lim w (.slice av ys.length cv) ys) (hxl : xs.length ≤ 1000) (hyl : ys.length ≤ 1000) :
    Calls Tryz.prog 30 #[.slice au xs.length cu, .slice av ys.length cv] w fun e w' => (∃ v', e = .returned v' ∧ Lim w' v' (lim (val xs * val ys))) ∧ Below w.heap.size w w' := by
  obtain ⟨i0, hi, hz0, hz1, hz2⟩ := info_parts info_u32
  go_enter Tryz.func30, Tryz.ntmps30
  go_wp2_with (at_make; refine wpList_make_full _ rfl _ _ 46 rfl w.heap.size 37 i0 (.int .u32 0) 1 Tryz.underlying46 hi hz0 hz1 .i64 .i64 _ _ (xs.length + ys.length) rfl rfl ?m1 ?m2 (by rw [hz2]; omega) (by simp only [maxLen]; omega) (by simp) ?_)
  case m1 => simp
  case m2 => simp
  intro w1 hown hgrow
  have hrow : RowN w1 w.heap.size 37 .u32 (List.replicate (xs.length + ys.length) 0) := row_of_owns hown (made_zeros _)
  have hB0 : Below w.heap.size w w1 := (Below.refl _ w).grown hgrow (Nat.le_refl _) (fun _ e => by cases e)
  have hprog : Tryz.prog.follows .mixedOrders = true := by kernel_rfl
  obtain ⟨L, hL⟩ : ∃ L, xs.length + ys.length = L := ⟨_, rfl⟩
  have hLi : (xs.length : Int) + (ys.length : Int) = (L : Int) := by omega
  rw [hL] at hrow
  clear hown hgrow
  go_wp2
  simp only [hL, hLi]
  go_loopw [18] (fun a wr => ∃ (i : Nat) (zs : List Nat), a = .int .i64 i ∧ i ≤ xs.length ∧ RowN wr w.heap.size 37 .u32 zs ∧ Below w.heap.size w wr ∧ zs.length = L ∧ Grp zs ∧
      val zs = val (xs.take i) * val ys ∧ (∀ j, i + ys.length ≤ j → zs[j]?.getD 0 = 0)) (fun a _ => xs.length - (intOf a).toNat)
  case atStart =>
    refine ⟨0, _, rfl, Nat.zero_le _, hrow, hB0, by simp, Grp.replicate _, by rw [val_replicate]; simp [val], fun j _ => ?_⟩
    rw [List.getElem?_replicate]
    split <;> rfl
  case round =>
    obtain ⟨i, zs, rfl, hil, hR, hB, hzl, hgz, hval, hz⟩ := hrel
    by_cases hlt : i < xs.length
    · obtain ⟨x, hxe⟩ : ∃ x, xs[i]?.getD 0 = x := ⟨_, rfl⟩
      have hxb := hgx i
      rw [hxe] at hxb
      have HV := hid (And.intro hval (And.intro hz (And.intro hxe (And.intro hL hgx))))
      have HX := hid hx
      have HY := hid hy
      clear hval hz hxe hx hy hgx hrow hB0
      go_wp2
      go_loopw [7, 23] (fun b d wr => ∃ (k c : Nat) (zs' : List Nat), d = .int .i64 k ∧ b = .int .u64 c ∧ k ≤ ys.length ∧ c < 1000000000 ∧ RowN wr w.heap.size 37 .u32 zs' ∧ Below w.heap.size w wr ∧ zs'.length = L ∧ Grp zs' ∧
          val zs' + 1000000000 ^ (i + k) * c = val zs + 1000000000 ^ i * (x * val (ys.take k)) ∧ (∀ j, i + ys.length ≤ j → zs'[j]?.getD 0 = 0)) (fun b d _ => ys.length - (intOf d).toNat)
      case atStart => exact ⟨0, 0, zs, rfl, rfl, Nat.zero_le _, by omega, hR, hB, hzl, hgz, by simp [val], HV.out.2.1⟩
      case round =>
        obtain ⟨k, c, zs', rfl, rfl, hkl, hcb, hR', hB', hzl', hgz', hval', hz'⟩ := hrel
        clear hR hB hzl hgz
        by_cases hkt : k < ys.length
        · obtain ⟨y, hye⟩ : ∃ y, ys[k]?.getD 0 = y := ⟨_, rfl⟩
          have hyb := hgy k
          obtain ⟨j, hj⟩ : ∃ j, i + k = j := ⟨_, rfl⟩
          have hki : (i : Int) + (k : Int) = (j : Int) := by omega
          have hjl : j < L := by omega
          have hwj : IntKind.i64.wrap (j : Int) = (j : Int) := IntWalk.i64_in _ (by omega)
          obtain ⟨z, hze⟩ : ∃ z, zs'[j]?.getD 0 = z := ⟨_, rfl⟩
          have hzb := hgz' j
          have hcz := hR'.cell (j := j) (by omega)
          have hfz := hR'.frozen j
          have hL1 := limb_calls _ xs i HV.out.2.2.2.2 wr.drew ((HX.out.below hB').below (Below.refl _ _).drew)
          have hL2 := limb_calls _ ys k hgy wr.drew ((HY.out.below hB').below (Below.refl _ _).drew)
          rw [HV.out.2.2.1] at hL1
          rw [hye] at hyb hL2
          rw [hze] at hzb hcz
          have hL1' := hL1.mono (R' := fun e w' => e = _ ∧ w' = _) (fun _ _ h => ⟨h.1, h.2.symm⟩)
          have hL2' := hL2.mono (R' := fun e w' => e = _ ∧ w' = _) (fun _ _ h => ⟨h.1, h.2.symm⟩)
          obtain ⟨hn1, hn2⟩ := carry_small hzb hxb hyb hcb
          obtain ⟨p, hp⟩ : ∃ p, x * y = p := ⟨_, rfl⟩
          rw [hp] at hn1 hn2
          have hpi : (x : Int) * (y : Int) = (p : Int) := by rw [← hp]; simp
          obtain ⟨n, hn⟩ : ∃ n, z + p + c = n := ⟨_, rfl⟩
          rw [hn] at hn1 hn2
          obtain ⟨s, hs⟩ : ∃ s, z + p = s := ⟨_, rfl⟩
          have hsi : (z : Int) + (p : Int) = (s : Int) := by omega
          have hws : IntKind.u64.wrap (s : Int) = (s : Int) := IntWalk.u64_in _ (by omega)
          have hni : (s : Int) + (c : Int) = (n : Int) := by omega
          have hwz : IntKind.u64.wrap (z : Int) = (z : Int) := IntWalk.u64_in _ (by omega)
          have hwp : IntKind.u64.wrap (p : Int) = (p : Int) := IntWalk.u64_in _ (by omega)
          have hwn : IntKind.u64.wrap (n : Int) = (n : Int) := IntWalk.u64_in _ (by omega)
          obtain ⟨q, hq⟩ : ∃ q, n / 1000000000 = q := ⟨_, rfl⟩
          obtain ⟨r, hr⟩ : ∃ r, n % 1000000000 = r := ⟨_, rfl⟩
          rw [hq] at hn2
          have hrb : r < 1000000000 := by omega
          have hwr : IntKind.u32.wrap (r : Int) = (r : Int) := IntWalk.u32_in _ (by omega)
          have hqi : (n : Int) / 1000000000 = (q : Int) := by omega
          have hri : (n : Int) % 1000000000 = (r : Int) := by omega
          have hstep : Hid (val (zs'.set j r) + 1000000000 ^ (i + (k + 1)) * q = val zs + 1000000000 ^ i * (x * val (ys.take (k + 1)))) := by
            have h := mul_step (y := y) (n := n) (by omega : i + k < zs'.length) hval' (by rw [hj, hze, hp, hn])
            rw [hq, hr, hj] at h
            show _ = _
            rw [h, take_succ_getD ys k hkt, val_snoc, List.length_take, Nat.min_eq_left (by omega), hye]
          have hz2 : Hid (∀ j', i + ys.length ≤ j' → (zs'.set j r)[j']?.getD 0 = 0) := fun j' hj' => by
            rw [List.getElem?_set_ne (by omega)]; exact hz' j' hj'
          have hg2 : Hid (Grp (zs'.set j r)) := hgz'.set _ _ hrb
          have HE := hid (And.intro hj (And.intro hye (And.intro hze (And.intro hp (And.intro hn (And.intro hq hr))))))
          clear hs hj hye hze hp hn hq hr hval' hz' hgz' hL1 hL2 hgy
          go_wp2
          refine wp_region_still_tail 17 hprog (by kernel_rfl) ?_
          simp only [List.take_succ_cons, List.take_zero, List.drop_succ_cons, List.drop_zero]
          repeat still_step
          still_call hL1'
          repeat still_step
          still_call hL2'
          repeat still_step
          refine wpStill_nil ?_
          go_wp2
          go_roundw
          case rel => exact ⟨k + 1, q, _, by simp, by simp, hkt, hn2, hR'.set j r, (hB'.setCell (Nat.le_refl _) _).drew, by simpa using hzl', hg2.out, hstep.out, hz2.out⟩
          case measure => simp [intOf]; omega
        · obtain rfl : k = ys.length := by omega
          obtain ⟨j, hj⟩ : ∃ j, i + ys.length = j := ⟨_, rfl⟩
          have hki : (i : Int) + (ys.length : Int) = (j : Int) := by omega
          have hjl : j < L := by omega
          have hz0' : zs'[j]?.getD 0 = 0 := hz' _ (by omega)
          have hcz := hR'.cell (j := j) (by omega)
          have hfz := hR'.frozen j
          rw [hz0'] at hcz
          have hwc : IntKind.u32.wrap (c : Int) = (c : Int) := IntWalk.u32_in _ (by omega)
          have HE := hid (And.intro hval' (And.intro hz' hgz'))
          clear hval' hz' hgz'
          go_wp2
          obtain ⟨hval', hz', hgz'⟩ := HE.out
          obtain ⟨hval, hz, hxe, _, _⟩ := HV.out
          refine ⟨⟨i + 1, zs'.set j c, by simp, hlt, hR'.set j c, hB'.setCell (Nat.le_refl _) _, by simpa using hzl', hgz'.set j c hcb, ?_, fun j' hj' => ?_⟩, by simp [intOf]; omega⟩
          · have h1 := val_set c (by omega : j < zs'.length)
            rw [hz0', Nat.mul_zero, Nat.add_zero] at h1
            rw [h1, ← hj, hval', List.take_length, hval, take_succ_getD xs i hlt, val_snoc, List.length_take, Nat.min_eq_left hil, hxe, Nat.add_mul, Nat.mul_assoc]
          · rw [List.getElem?_set_ne (by omega)]
            exact hz' j' (by omega)
    · obtain rfl : i = xs.length := by omega
      have HV := hid (And.intro hval (And.intro hz hgz))
      have hLz : Lim wr (.slice (some ⟨w.heap.size, 0, none⟩) L L) zs :=
        ⟨_, _, by rw [hzl], by omega, ⟨by simp only [maxLen]; omega, fun k hk => by simp [Value.ownBlock] at hk; rw [← hk]; exact ⟨_, _, hR⟩⟩, fun _ => ⟨_, 0, rfl, hR.lt, fun j hj => by rw [Nat.zero_add]; exact hR.cell hj⟩⟩
      have htrim := trim_calls _ zs hgz wr hLz
      clear hval hz hgz hlt hil
      go_wp2_with (go_at_call 46; refine htrim.mono ?_; rintro e w' ⟨⟨v', rfl, hv'⟩, rfl⟩)
      go_ret
      refine ⟨⟨_, rfl, ?_⟩, hB⟩
      rw [HV.out.1, List.take_length] at hv'
      exact hv'

theorem mul_calls (u v : Value) (a b : Nat) (w : World) (hx : Lim w u (lim a)) (hy : Lim w v (lim b)) (ha : (lim a).length ≤ 1000) (hb : (lim b).length ≤ 1000) :
    Calls Tryz.prog 30 #[u, v] w fun e w' => (∃ v', e = .returned v' ∧ Lim w' v' (lim (a * b))) ∧ Below w.heap.size w w' := by
  obtain ⟨au, cu, rfl, _⟩ := id hx
  obtain ⟨av, cv, rfl, _⟩ := id hy
  have h := mul_at au av cu cv _ _ (lim_grp a) (lim_grp b) w hx hy ha hb
  rwa [val_lim, val_lim] at h
end Go.Proofs.YtdppcpiepippoaaGreatDoor
