/- The document's own naturals (targumref01): ends, mul, Mul, Div, Power: walked. -/
import Derived.Test.YtdppcpiepippoaaGreatDoorRefB
import Derived.Test.YtdppcpiepippoaaGreatDoorRange
import Derived.StillTailTactics
import Derived.Shelf.RegionOpen
namespace Go.Proofs.YtdppcpiepippoaaGreatDoor
open Go.RowKit
attribute [local go_sem] Oper.semAt_some

theorem rinfo_int : (Tryz.prog.info? 3).map (fun i => (i.zero, i.size, i.bytes)) = some (some (.int .i64 0), 1, 8) := by kernel_rfl
theorem made_ints (n : Nat) : (madeCells #[Value.int .i64 0] n).toList = (List.replicate n 0).map fun x => Value.int .i64 (x : Nat) := by
  apply List.ext_getElem
  · simp [madeCells]
  · intro i h1 h2
    simp [madeCells, Nat.mod_one]
theorem RowN.below {W W' : World} {g : Nat} {e : TypeId} {k : IntKind} {xs : List Nat} (h : RowN W g e k xs) (hb : Below W.heap.size W W') : RowN W' g e k xs := (hb.block g h.lt).trans h

set_option maxRecDepth 100000 in
theorem rends_calls (l : List UInt8) (h0 : l ≠ []) (hd : Dgs l) (hl : l.length ≤ 140737488355328) (w : World) :
    Calls Tryz.prog 40 #[.string ⟨l.toArray⟩] w fun e w' => e = .returned (.tuple #[.string ⟨(fitS (nv l)).toArray⟩, .int .i64 (fitE (nv l))]) ∧ w' = w := by
  have htrim := rTrim_calls ⟨l.toArray⟩ (by simpa [ByteArray.size] using hl) w
  rw [show tx ⟨l.toArray⟩ = l from tx_B l, trimL_dec h0 hd] at htrim
  have hds : (⟨(Lib.decDigits (nv l)).toArray⟩ : ByteArray).size = Lib.nDigits (nv l) := by rw [← Lib.decDigits_length]; simp [ByteArray.size]
  by_cases h : Lib.nDigits (nv l) ≤ 400
  · have HF := hid (show fitS (nv l) = Lib.decDigits (nv l) ∧ fitE (nv l) = 0 from ⟨if_pos h, if_pos h⟩)
    obtain ⟨t, ht⟩ : ∃ t : ByteArray, ⟨(Lib.decDigits (nv l)).toArray⟩ = t := ⟨_, rfl⟩
    rw [ht] at htrim hds
    have HT := hid ht
    have hts : (t.size : Int) ≤ 400 := by omega
    clear ht hds h
    go_enter Tryz.func40, Tryz.ntmps40
    go_wp2_with (go_at_call 33; refine htrim.mono ?_; rintro e w1 ⟨rfl, rfl⟩)
    go_ret2
    exact ⟨by rw [HF.out.1, HF.out.2, ← HT.out]; rfl, rfl⟩
  · have HF := hid (show fitS (nv l) = [] ∧ fitE (nv l) = 11 from ⟨if_neg h, if_neg h⟩)
    obtain ⟨t, ht⟩ : ∃ t : ByteArray, ⟨(Lib.decDigits (nv l)).toArray⟩ = t := ⟨_, rfl⟩
    rw [ht] at htrim hds
    have hts : (400 : Int) < (t.size : Int) := by omega
    clear ht hds h
    go_enter Tryz.func40, Tryz.ntmps40
    go_wp2_with (go_at_call 33; refine htrim.mono ?_; rintro e w1 ⟨rfl, rfl⟩)
    go_ret2
    exact ⟨by rw [HF.out.1, HF.out.2]; rfl, rfl⟩

set_option maxRecDepth 100000 in
set_option maxHeartbeats 4000000 in
theorem rmul_calls (s t : ByteArray) (hs : Dgs (tx s)) (ht : Dgs (tx t)) (h1 : 1 ≤ s.size) (hsl : s.size ≤ 500) (htl : t.size ≤ 500) (w : World) :
    Calls Tryz.prog 35 #[.string s, .string t] w fun e w' => e = .returned (.string ⟨(Lib.decDigits (nv (tx s) * nv (tx t))).toArray⟩) ∧ Below w.heap.size w w' := by
  obtain ⟨i0, hi, hz0, hz1, hz2⟩ := info_parts rinfo_int
  have hprog : Tryz.prog.follows .mixedOrders = true := by kernel_rfl
  go_enter Tryz.func35, Tryz.ntmps35
  go_wp2_with (at_make; refine wpList_make_full _ rfl _ _ 74 rfl w.heap.size 3 i0 (.int .i64 0) 1 Tryz.underlying74 hi hz0 hz1 .i64 .i64 _ _ (s.size + t.size) rfl rfl ?m1 ?m2 (by rw [hz2]; omega) (by simp only [maxLen]; omega) (by simp) ?_)
  case m1 => simp
  case m2 => simp
  intro w1 hown hgrow
  have hrow : RowN w1 w.heap.size 3 .i64 (List.replicate (s.size + t.size) 0) := row_of_owns hown (made_ints _)
  have hB0 : Below w.heap.size w w1 := (Below.refl _ w).grown hgrow (Nat.le_refl _) (fun _ e => by cases e)
  obtain ⟨L, hL⟩ : ∃ L, s.size + t.size = L := ⟨_, rfl⟩
  have hLi : (s.size : Int) + (t.size : Int) = (L : Int) := by omega
  rw [hL] at hrow
  clear hown hgrow
  go_wp2
  simp only [hL, hLi]
  go_loopw [6] (fun a wr => ∃ (i : Nat) (zs : List Nat), a = .int .i64 i ∧ i ≤ s.size ∧ RowN wr w.heap.size 3 .i64 zs ∧ Below w.heap.size w wr ∧ zs.length = L ∧
      tens zs = nv (tx s) % 10 ^ i * nv (tx t) + 10 ^ i * (dgt (tx s) i * (nv (tx t) % 10 ^ 0)) ∧ (∀ j : Nat, zs[j]?.getD 0 ≤ 81 * i)) (fun a _ => s.size - (intOf a).toNat)
  case atStart =>
    refine ⟨0, _, rfl, Nat.zero_le _, hrow, hB0, by simp, by rw [tens_zero, Nat.pow_zero, Nat.mod_one, Nat.mod_one, Nat.zero_mul, Nat.mul_zero, Nat.mul_zero], fun j => ?_⟩
    rw [List.getElem?_replicate]
    split <;> simp
  case round =>
    obtain ⟨i, zs, rfl, hil, hR, hB, hzl, hval, hz⟩ := hrel
    by_cases hlt : i < s.size
    · have HV := hid (And.intro hval (And.intro hz hL))
      clear hval hz hL hrow hB0
      go_wp2
      go_loopw [7] (fun d wr => ∃ (k : Nat) (zs' : List Nat), d = .int .i64 k ∧ k ≤ t.size ∧ RowN wr w.heap.size 3 .i64 zs' ∧ Below w.heap.size w wr ∧ zs'.length = L ∧
          tens zs' = nv (tx s) % 10 ^ i * nv (tx t) + 10 ^ i * (dgt (tx s) i * (nv (tx t) % 10 ^ k)) ∧ (∀ j : Nat, zs'[j]?.getD 0 ≤ 81 * i + 81) ∧ (∀ j : Nat, i + k ≤ j → zs'[j]?.getD 0 ≤ 81 * i)) (fun d _ => t.size - (intOf d).toNat)
      case atStart => exact ⟨0, zs, rfl, Nat.zero_le _, hR, hB, hzl, HV.out.1, fun j => Nat.le_trans (HV.out.2.1 j) (by omega), fun j _ => HV.out.2.1 j⟩
      case round =>
        obtain ⟨k, zs', rfl, hkl, hR', hB', hzl', hval', hz1', hz2'⟩ := hrel
        clear hR hB hzl
        by_cases hkt : k < t.size
        · obtain ⟨j, hj⟩ : ∃ j, i + k = j := ⟨_, rfl⟩
          have hki : (i : Int) + (k : Int) = (j : Int) := by omega
          have hjl : j < L := by have := HV.out.2.2; omega
          have hwj : IntKind.i64.wrap (j : Int) = (j : Int) := IntWalk.i64_in _ (by omega)
          obtain ⟨z, hze⟩ : ∃ z, zs'[j]?.getD 0 = z := ⟨_, rfl⟩
          have hcz := hR'.cell (j := j) (by omega)
          have hfz := hR'.frozen j
          have hzb : z ≤ 81 * i := by rw [← hze]; exact hz2' j (by omega)
          obtain ⟨x, hxe⟩ : ∃ x, dgt (tx s) i = x := ⟨_, rfl⟩
          obtain ⟨y, hye⟩ : ∃ y, dgt (tx t) k = y := ⟨_, rfl⟩
          have hxb := dgt_lt (tx s) hs i
          have hyb := dgt_lt (tx t) ht k
          have hL1 := rdigit_calls s (by omega) hs i (by omega) wr.drew
          have hL2 := rdigit_calls t (by omega) ht k (by omega) wr.drew
          rw [hxe] at hL1 hxb
          rw [hye] at hL2 hyb
          rw [hze] at hcz
          obtain ⟨p, hp⟩ : ∃ p, x * y = p := ⟨_, rfl⟩
          have hpb : p ≤ 81 := by rw [← hp]; exact Nat.mul_le_mul hxb hyb
          have hpi : (x : Int) * (y : Int) = (p : Int) := by rw [← hp]; simp
          obtain ⟨n, hn⟩ : ∃ n, z + p = n := ⟨_, rfl⟩
          have hni : (z : Int) + (p : Int) = (n : Int) := by omega
          have hwp : IntKind.i64.wrap (p : Int) = (p : Int) := IntWalk.i64_in _ (by omega)
          have hwn : IntKind.i64.wrap (n : Int) = (n : Int) := IntWalk.i64_in _ (by omega)
          have hstep : Hid (tens (zs'.set j n) = nv (tx s) % 10 ^ i * nv (tx t) + 10 ^ i * (dgt (tx s) i * (nv (tx t) % 10 ^ (k + 1)))) := by
            have h := rmul_step (a := tx s) (b := tx t) ht (by omega : i + k < zs'.length) hval'
            rw [hj, hxe, hye, hp, hze, hn] at h
            rw [hxe]
            exact h
          have hb2 : Hid ((∀ j' : Nat, (zs'.set j n)[j']?.getD 0 ≤ 81 * i + 81) ∧ (∀ j' : Nat, i + (k + 1) ≤ j' → (zs'.set j n)[j']?.getD 0 ≤ 81 * i)) := by
            refine ⟨fun j' => ?_, fun j' hj' => ?_⟩
            · by_cases e : j = j'
              · subst e; rw [List.getElem?_set_self (by omega), Option.getD_some]; omega
              · rw [List.getElem?_set_ne e]; exact hz1' j'
            · rw [List.getElem?_set_ne (by omega)]; exact hz2' j' (by omega)
          have HE := hid (And.intro hj (And.intro hze (And.intro hxe (And.intro hye (And.intro hp hn)))))
          clear hj hze hxe hye hp hn hval' hz1' hz2' hs ht
          go_wp2
          refine wp_region_still_tail 19 hprog (by kernel_rfl) ?_
          simp only [List.take_succ_cons, List.take_zero, List.drop_succ_cons, List.drop_zero]
          repeat still_step
          still_call hL1
          repeat still_step
          still_call hL2
          repeat still_step
          refine wpStill_nil ?_
          go_wp2
          go_roundw
          case rel => exact ⟨k + 1, _, by simp, hkt, hR'.set j n, (hB'.setCell (Nat.le_refl _) _).drew, by simpa using hzl', hstep.out, hb2.out.1, hb2.out.2⟩
          case measure => simp [intOf]; omega
        · obtain rfl : k = t.size := by omega
          have HW := hid (And.intro hval' hz1')
          clear hval' hz1' hz2'
          go_wp2
          refine ⟨⟨i + 1, zs', by simp, hlt, hR', hB', hzl', ?_, fun j => by have := HW.out.2 j; omega⟩, by simp [intOf]; omega⟩
          exact rmul_next hs ht (by rw [txs_len]; exact HW.out.1)
    · obtain rfl : i = s.size := by omega
      have HT : Hid (tens zs = nv (tx s) * nv (tx t)) := by
        show _ = _
        rw [hval, Nat.pow_zero, Nat.mod_one, Nat.mul_zero, Nat.mul_zero, Nat.add_zero, mod_pow_big hs (by rw [txs_len]; exact Nat.le_refl _)]
      have HZ := hid (And.intro hz hL)
      clear hval hz hL hrow hB0 hlt hil
      go_wp2
      go_loopw [8, 9, 10] (fun o c d wr => ∃ (out : List UInt8) (cc i : Nat), o = .string ⟨out.toArray⟩ ∧ c = .int .i64 cc ∧ d = .int .i64 i ∧ i ≤ L ∧ out.length = i ∧ Dgs out ∧ cc ≤ 100000 ∧ RowN wr w.heap.size 3 .i64 zs ∧ Below w.heap.size w wr ∧
          nv out + 10 ^ i * (cc + tens (zs.drop i)) = nv (tx s) * nv (tx t)) (fun _ _ d _ => L - (intOf d).toNat)
      case atStart => exact ⟨[], 0, 0, rfl, rfl, rfl, Nat.zero_le _, rfl, Dgs.nil, by omega, hR, hB, by rw [List.drop_zero, HT.out, nv_nil]; omega⟩
      case round =>
        obtain ⟨out, c, i, rfl, rfl, rfl, hiL, hol, hod, hcb, hR', hB', hv⟩ := hrel
        clear hR hB
        by_cases hlt : i < L
        · obtain ⟨z, hze⟩ : ∃ z, zs[i]?.getD 0 = z := ⟨_, rfl⟩
          have hcz := hR'.cell (j := i) (by omega)
          have hzb : z ≤ 81 * s.size := by rw [← hze]; exact HZ.out.1 i
          rw [hze] at hcz
          obtain ⟨n, hn⟩ : ∃ n, z + c = n := ⟨_, rfl⟩
          have hni : (z : Int) + (c : Int) = (n : Int) := by omega
          have hnb : n ≤ 200000 := by omega
          have hst := rcar_step (l := zs) (c := c) hol hv
          rw [hze, hn] at hst
          have hod' := Dgs.cons (dgc (show n % 10 < 10 by omega)) hod
          have hcv := conv_one wr (48 + n % 10) (by omega) (48 + (n : Int) % 10) (by omega)
          obtain ⟨ch, hch⟩ : ∃ ch, UInt8.ofNat (48 + n % 10) = ch := ⟨_, rfl⟩
          rw [hch] at hst hod' hcv
          obtain ⟨q, hq⟩ : ∃ q, n / 10 = q := ⟨_, rfl⟩
          have hqi : (n : Int) / 10 = (q : Int) := by omega
          rw [hq] at hst
          have hqb : q ≤ 100000 := by omega
          have HS := hid (And.intro hst (And.intro hod' hol))
          have hob : (out.length : Int) ≤ 2000 := by omega
          have hR2 := hR'.below (below_alloc wr (.cells #[.int .u8 (48 + (n : Int) % 10)] 5))
          have hB2 := hB'.alloc hB'.size (.cells #[.int .u8 (48 + (n : Int) % 10)] 5)
          clear hze hn hch hq hst hod' hol hv hR'
          go_wp2
          go_roundw
          case rel => exact ⟨ch :: out, q, i + 1, congrArg Value.string (by apply ByteArray.ext; simp [ByteArray.data_append]), by simp, by simp, hlt, by simp [HS.out.2.2], HS.out.2.1, hqb, hR2, hB2, HS.out.1⟩
          case measure => simp [intOf]; omega
        · obtain rfl : i = L := by omega
          have hfin : nv out = nv (tx s) * nv (tx t) := rcar_done (l := zs) hs ht (by rw [txs_len, txs_len, HZ.out.2]; exact hzl) (by omega) (by rw [hzl]; exact hv)
          have hne : out ≠ [] := by intro e; rw [e] at hol; simp at hol; have := HZ.out.2; omega
          have htrim := rTrim_calls ⟨out.toArray⟩ (by simp [ByteArray.size]; omega) wr
          rw [show tx ⟨out.toArray⟩ = out from tx_B out, trimL_dec hne hod, hfin] at htrim
          clear hfin hne hv hod hol
          go_wp2_with (go_at_call 33; refine htrim.mono ?_; rintro e w1 ⟨rfl, rfl⟩)
          go_ret
          exact ⟨rfl, hB'⟩

/-- Div. -/
def rdivQ (s : ByteArray) (b : Nat) : List UInt8 := if isRt (tx s) && decide (b ≠ 0) then Lib.decDigits (nv (tx s) / b) else []
def rdivR (s : ByteArray) (b : Nat) : Nat := if isRt (tx s) && decide (b ≠ 0) then nv (tx s) % b else 0
def rdivE (s : ByteArray) (b : Nat) : Int := if isRt (tx s) && decide (b ≠ 0) then 0 else 10

set_option maxRecDepth 100000 in
set_option maxHeartbeats 4000000 in
theorem rDiv_calls (s : ByteArray) (b : Nat) (hb32 : b < 4294967296) (hs : s.size ≤ 140737488355328) (w : World) :
    Calls Tryz.prog 28 #[.string s, .int .u32 b] w fun e w' => e = .returned (.tuple #[.string ⟨(rdivQ s b).toArray⟩, .int .u32 (rdivR s b : Nat), .int .i64 (rdivE s b)]) ∧ Below w.heap.size w w' := by
  have hR := same_symm (rRight_calls s hs w)
  by_cases hgood : isRt (tx s) = true ∧ ¬ b = 0
  · obtain ⟨h1, hb0⟩ := hgood
    have HQ := hid (show rdivQ s b = Lib.decDigits (nv (tx s) / b) ∧ rdivR s b = nv (tx s) % b ∧ rdivE s b = 0 by unfold rdivQ rdivR rdivE; rw [h1, decide_eq_true hb0]; exact ⟨rfl, rfl, rfl⟩)
    have g1 := (isRt_iff _).1 h1
    have hd := Dgs.rt h1
    have l1 : 1 ≤ s.size := by
      have := dec_ne_nil (nv (tx s))
      rw [← g1.1] at this
      rw [← txs_len]; exact List.length_pos_iff.2 this
    have l2 : s.size ≤ 400 := by rw [← txs_len]; exact g1.2
    rw [h1] at hR
    have hbi : ((b : Int) == 0) = false := by rw [beq_eq_false_iff_ne]; omega
    have hbp : 0 < b := by omega
    have hwb : IntKind.u64.wrap (b : Int) = (b : Int) := IntWalk.u64_in _ (by omega)
    have hbpi : (1 : Int) ≤ (b : Int) := by omega
    clear g1 h1 hb0
    go_enter Tryz.func28, Tryz.ntmps28
    go_wp2_with (go_at_call 22; refine hR.mono ?_; rintro e w1 ⟨rfl, rfl⟩)
    go_loopw [7, 8, 9] (fun o c d wr => ∃ (k r : Nat) (out : List UInt8), o = .string ⟨out.toArray⟩ ∧ c = .int .u64 r ∧ d = .int .i64 k ∧ k ≤ s.size ∧ out.length = k ∧ Dgs out ∧ r < b ∧ nv out * b + r = nv ((tx s).take k) ∧ Below w.heap.size w wr) (fun _ _ d _ => s.size - (intOf d).toNat)
    case atStart => exact ⟨0, 0, [], rfl, rfl, rfl, Nat.zero_le _, rfl, Dgs.nil, hbp, by rw [nv_nil, List.take_zero, nv_nil]; omega, Below.refl _ _⟩
    case round =>
      obtain ⟨k, r, out, rfl, rfl, rfl, hk, hol, hod, hrb, hv, hB⟩ := hrel
      by_cases hlt : k < s.size
      · obtain ⟨ch, hch⟩ : ∃ ch, s[k] = ch := ⟨_, rfl⟩
        have hcb := hd.at (k := k) (by rw [txs_len]; exact hlt)
        have hcd : isDg ch = true := by rw [← hch]; exact hd _ (List.getElem_mem (l := tx s) (by rw [txs_len]; exact hlt))
        rw [txs_at s hlt, hch] at hcb
        have htk := txs_take s hlt
        rw [hch] at htk
        obtain ⟨h1, h2, h3⟩ := rdiv_step (by omega) hrb hcd hv
        rw [← htk] at h2
        obtain ⟨n, hn⟩ : ∃ n, 10 * r + (ch.toNat - 48) = n := ⟨_, rfl⟩
        have hni : 10 * (r : Int) + ((ch.toNat : Int) - 48) = (n : Int) := by omega
        rw [hn] at h1 h2 h3
        obtain ⟨q, hq⟩ : ∃ q, n / b = q := ⟨_, rfl⟩
        obtain ⟨m, hm⟩ : ∃ m, n % b = m := ⟨_, rfl⟩
        obtain ⟨q1, q2, q3⟩ := quo_forms hbp (by omega) hq
        obtain ⟨r1, r2⟩ := rem_forms hm
        rw [hq] at h1 h2
        rw [hm] at h2 h3
        have hod' := hod.append (Dgs.cons (dgc h1) Dgs.nil)
        have hcv := conv_one wr (48 + q) (by omega) (48 + (q : Int)) (by omega)
        obtain ⟨c, hc⟩ : ∃ c, UInt8.ofNat (48 + q) = c := ⟨_, rfl⟩
        rw [hc] at h2 hod' hcv
        obtain ⟨cb1, cb2⟩ := hcb
        have e1 : (48 : Int) ≤ (ch.toNat : Int) := by omega
        have e2 : (ch.toNat : Int) ≤ 57 := by omega
        have HS := hid (And.intro h2 (And.intro hod' hol))
        have hob : (out.length : Int) ≤ 2000 := by omega
        have hB2 := hB.alloc hB.size (.cells #[.int .u8 (48 + (q : Int))] 5)
        clear htk hn hq hm h2 hod' hol hv hc hcd
        go_wp2
        go_roundw
        case rel => exact ⟨k + 1, m, out ++ [c], congrArg Value.string (by apply ByteArray.ext; simp [ByteArray.data_append]), by simp, by simp, hlt, by simp [HS.out.2.2], HS.out.2.1, h3, HS.out.1, hB2⟩
        case measure => simp [intOf]; omega
      · obtain rfl : k = s.size := by omega
        rw [List.take_of_length_le (by rw [txs_len]; exact Nat.le_refl _)] at hv
        obtain ⟨f1, f2⟩ := rdiv_done hbp hrb hv
        have hne : out ≠ [] := by intro e; rw [e] at hol; simp at hol; omega
        have htrim := rTrim_calls ⟨out.toArray⟩ (by simp [ByteArray.size]; omega) wr
        rw [show tx ⟨out.toArray⟩ = out from tx_B out, trimL_dec hne hod, f1] at htrim
        have HF := hid f2
        have hwr : IntKind.u32.wrap (r : Int) = (r : Int) := IntWalk.u32_in _ (by omega)
        clear f1 f2 hne hod hol hv
        go_wp2_with (go_at_call 33; refine htrim.mono ?_; rintro e w1 ⟨rfl, rfl⟩)
        go_ret3
        exact ⟨by rw [HQ.out.1, HQ.out.2.1, HQ.out.2.2, ← HF.out]; rfl, hB⟩
  · have hf : (isRt (tx s) && decide (b ≠ 0)) = false := by
      cases h : isRt (tx s) with
      | false => rfl
      | true => rw [Bool.true_and]; exact decide_eq_false (fun h2 => hgood ⟨h, h2⟩)
    have HQ := hid (show rdivQ s b = [] ∧ rdivR s b = 0 ∧ rdivE s b = 10 by unfold rdivQ rdivR rdivE; rw [hf]; exact ⟨rfl, rfl, rfl⟩)
    cases h : isRt (tx s) with
    | false =>
      rw [h] at hR
      clear hf hgood h
      go_enter Tryz.func28, Tryz.ntmps28
      go_wp2_with (go_at_call 22; refine hR.mono ?_; rintro e w1 ⟨rfl, rfl⟩)
      go_ret3
      exact ⟨by rw [HQ.out.1, HQ.out.2.1, HQ.out.2.2]; rfl, Below.refl _ _⟩
    | true =>
      have hb0 : b = 0 := by
        by_cases e : b = 0
        · exact e
        · exact absurd ⟨h, e⟩ hgood
      subst hb0
      rw [h] at hR
      clear hf hgood h
      go_enter Tryz.func28, Tryz.ntmps28
      go_wp2_with (go_at_call 22; refine hR.mono ?_; rintro e w1 ⟨rfl, rfl⟩)
      go_ret3
      exact ⟨by rw [HQ.out.1, HQ.out.2.1, HQ.out.2.2]; rfl, Below.refl _ _⟩
end Go.Proofs.YtdppcpiepippoaaGreatDoor
