/- The document's own naturals (targumref01): Add, Sub, To, Bytes, OfBytes: walked. -/
import Derived.Test.YtdppcpiepippoaaGreatDoorRefE
namespace Go.Proofs.YtdppcpiepippoaaGreatDoor
open Go.RowKit
attribute [local go_sem] Oper.semAt_some

theorem rrt_dec {m : Nat} (h : Lib.nDigits m ≤ 400) : isRt (Lib.decDigits m) = true := (isRt_iff _).2 ⟨by rw [nv_dec], by rw [Lib.decDigits_length]; exact h⟩
theorem rt_nd {l : List UInt8} (h : isRt l = true) : Lib.nDigits (nv l) ≤ 400 := by
  have g := (isRt_iff _).1 h
  rw [← Lib.decDigits_length, ← g.1]; exact g.2

set_option maxRecDepth 100000 in
theorem rAdd_calls (s t : ByteArray) (hs : s.size ≤ 140737488355328) (ht : t.size ≤ 140737488355328) (w : World) :
    Calls Tryz.prog 18 #[.string s, .string t] w fun e w' => e = .returned (.tuple #[.string ⟨(addS s t).toArray⟩, .int .i64 (addE s t)]) ∧ Below w.heap.size w w' := by
  cases h1 : isRt (tx s) with
  | false =>
    have HR := hid (show addS s t = [] ∧ addE s t = 10 by unfold addS addE both; rw [h1]; exact ⟨rfl, rfl⟩)
    go_enter Tryz.func18, Tryz.ntmps18
    go_wp2_with (go_at_call 22; refine (same_symm (rRight_calls _ (by assumption) _)).mono ?_; rintro e w1 ⟨rfl, rfl⟩)
    go_ret2
    exact ⟨by rw [HR.out.1, HR.out.2]; rfl, Below.refl _ _⟩
  | true =>
    cases h2 : isRt (tx t) with
    | false =>
      have HR := hid (show addS s t = [] ∧ addE s t = 10 by unfold addS addE both; rw [h1, h2]; exact ⟨rfl, rfl⟩)
      go_enter Tryz.func18, Tryz.ntmps18
      go_wp2_with (go_at_call 22; refine (same_symm (rRight_calls _ (by assumption) _)).mono ?_; rintro e w1 ⟨rfl, rfl⟩)
      go_ret2
      exact ⟨by rw [HR.out.1, HR.out.2]; rfl, Below.refl _ _⟩
    | true =>
      have HR := hid (show addS s t = fitS (nv (tx s) + nv (tx t)) ∧ addE s t = fitE (nv (tx s) + nv (tx t)) by unfold addS addE both; rw [h1, h2]; exact ⟨rfl, rfl⟩)
      have ls := rt_len h1
      have lt := rt_len h2
      rw [txs_len] at ls lt
      have hc := radd_calls s t (Dgs.rt h1) (Dgs.rt h2) ls.1 (by omega) (by omega)
      obtain ⟨m, hm⟩ : ∃ m, nv (tx s) + nv (tx t) = m := ⟨_, rfl⟩
      rw [hm] at hc HR
      have hends := fun (l : List UInt8) (a : l ≠ []) (b : Dgs l) (c : l.length ≤ 2000) (W : World) => rends_calls l a b (by omega) W
      clear hm ls lt
      go_enter Tryz.func18, Tryz.ntmps18
      go_wp2_with (first
        | (go_at_call 22; refine (same_symm (rRight_calls _ (by assumption) _)).mono ?_; rintro e w1 ⟨rfl, rfl⟩)
        | (go_at_call 34; refine (hc _).mono ?_; rintro e w1 ⟨⟨l, rfl, a1, a2, a3, a4⟩, hb⟩; have A4 := hid a4; clear a4)
        | (go_at_call 40; refine (hends _ a1 a2 a3 _).mono ?_; rintro e w1 ⟨rfl, rfl⟩))
      go_ret2
      exact ⟨by rw [HR.out.1, HR.out.2, A4.out]; rfl, hb⟩

set_option maxRecDepth 100000 in
set_option maxHeartbeats 4000000 in
theorem rSub_calls (s t : ByteArray) (hs : s.size ≤ 140737488355328) (ht : t.size ≤ 140737488355328) (w : World) :
    Calls Tryz.prog 20 #[.string s, .string t] w fun e w' => e = .returned (.tuple #[.string ⟨(subS s t).toArray⟩, .int .i64 (subE s t)]) ∧ Below w.heap.size w w' := by
  cases h1 : isRt (tx s) with
  | false =>
    have HR := hid (show subS s t = [] ∧ subE s t = 10 by unfold subS subE both; rw [h1]; exact ⟨rfl, rfl⟩)
    go_enter Tryz.func20, Tryz.ntmps20
    go_wp2_with (go_at_call 22; refine (same_symm (rRight_calls _ (by assumption) _)).mono ?_; rintro e w1 ⟨rfl, rfl⟩)
    go_ret2
    exact ⟨by rw [HR.out.1, HR.out.2]; rfl, Below.refl _ _⟩
  | true =>
    cases h2 : isRt (tx t) with
    | false =>
      have HR := hid (show subS s t = [] ∧ subE s t = 10 by unfold subS subE both; rw [h1, h2]; exact ⟨rfl, rfl⟩)
      go_enter Tryz.func20, Tryz.ntmps20
      go_wp2_with (go_at_call 22; refine (same_symm (rRight_calls _ (by assumption) _)).mono ?_; rintro e w1 ⟨rfl, rfl⟩)
      go_ret2
      exact ⟨by rw [HR.out.1, HR.out.2]; rfl, Below.refl _ _⟩
    | true =>
      have hc := rcompare_calls s t h1 h2
      by_cases hle : nv (tx t) ≤ nv (tx s)
      · have HR := hid (show subS s t = Lib.decDigits (nv (tx s) - nv (tx t)) ∧ subE s t = 0 by unfold subS subE both; rw [h1, h2, decide_eq_true hle]; exact ⟨rfl, rfl⟩)
        have ls := rt_len h1
        have lt := rt_len h2
        rw [txs_len] at ls lt
        have ds := Dgs.rt h1
        have dt := Dgs.rt h2
        have hz := cmpI_nonneg hle
        obtain ⟨z, hze⟩ : ∃ z, cmpI (nv (tx s)) (nv (tx t)) = z := ⟨_, rfl⟩
        rw [hze] at hc hz
        have HLE := hid hle
        clear hze hle
        go_enter Tryz.func20, Tryz.ntmps20
        go_wp2_with (first
          | (go_at_call 22; refine (same_symm (rRight_calls _ (by assumption) _)).mono ?_; rintro e w1 ⟨rfl, rfl⟩)
          | (go_at_call 37; refine (hc _).mono ?_; rintro e w1 ⟨rfl, hb⟩))
        go_loopw [6, 7, 8] (fun o c d wr => ∃ (out : List UInt8) (cc i : Nat), o = .string ⟨out.toArray⟩ ∧ c = .int .i64 cc ∧ d = .int .i64 i ∧ i ≤ s.size ∧ out.length = i ∧ Dgs out ∧ cc ≤ 1 ∧ Below w.heap.size w wr ∧
          nv out + nv (tx t) % 10 ^ i = nv (tx s) % 10 ^ i + 10 ^ i * cc) (fun _ _ d _ => s.size - (intOf d).toNat)
        case atStart => exact ⟨[], 0, 0, rfl, rfl, rfl, Nat.zero_le _, rfl, Dgs.nil, by omega, hb, by rw [nv_nil, Nat.pow_zero, Nat.mod_one, Nat.mod_one]⟩
        case round =>
          obtain ⟨out, c, i, rfl, rfl, rfl, hil, hol, hod, hcb, hB, hv⟩ := hrel
          by_cases hlt : i < s.size
          · have hL1 := rdigit_calls s (by omega) ds i (by omega)
            have hL2 := rdigit_calls t (by omega) dt i (by omega)
            obtain ⟨x, hxe⟩ : ∃ x, dgt (tx s) i = x := ⟨_, rfl⟩
            obtain ⟨y, hye⟩ : ∃ y, dgt (tx t) i = y := ⟨_, rfl⟩
            have hxb := dgt_lt (tx s) ds i
            have hyb := dgt_lt (tx t) dt i
            have hst := fun (d' c' : Nat) (a : d' < 10) (b : d' + dgt (tx t) i + c = dgt (tx s) i + 10 * c') => rsub_step (c' := c') ds dt hol a hv b
            rw [hxe] at hL1 hxb hst
            rw [hye] at hL2 hyb hst
            have hL1' := same_symm (hL1 wr)
            have hL2' := same_symm (hL2 wr)
            have hob : (out.length : Int) ≤ 2000 := by omega
            have hno : Hid (out.length = i) := hol
            have hod0 := hid hod
            clear hxe hye hol hod hv hL1 hL2
            by_cases hxy : y + c ≤ x
            · obtain ⟨d, hd⟩ : ∃ d, x - y - c = d := ⟨_, rfl⟩
              have hdi : (x : Int) - (y : Int) - (c : Int) = (d : Int) := by omega
              have hdb : d < 10 := by omega
              have hcv := conv_one wr (48 + d) (by omega) (48 + (d : Int)) (by omega)
              have h1 := hst d 0 hdb (by omega)
              have h2 := Dgs.cons (dgc hdb) hod0.out
              obtain ⟨ch, hch⟩ : ∃ ch, UInt8.ofNat (48 + d) = ch := ⟨_, rfl⟩
              rw [hch] at h1 h2 hcv
              have HS := hid (And.intro h1 h2)
              have hB2 := hB.alloc hB.size (.cells #[.int .u8 (48 + (d : Int))] 5)
              clear hd hch h1 h2 hst hxy
              go_wp2_with fail
              refine hL1'.mono ?_
              rintro e w1 ⟨rfl, rfl⟩
              go_wp2_with fail
              refine hL2'.mono ?_
              rintro e w1 ⟨rfl, rfl⟩
              go_wp2
              go_roundw
              case rel => exact ⟨ch :: out, 0, i + 1, congrArg Value.string (by apply ByteArray.ext; simp [ByteArray.data_append]), by simp, by simp, hlt, by simp [hno.out], HS.out.2, by omega, hB2, HS.out.1⟩
              case measure => simp [intOf]; omega
            · obtain ⟨d, hd⟩ : ∃ d, x + 10 - y - c = d := ⟨_, rfl⟩
              have hdi : (x : Int) - (y : Int) - (c : Int) + 10 = (d : Int) := by omega
              have hneg : (x : Int) - (y : Int) - (c : Int) < 0 := by omega
              have hdb : d < 10 := by omega
              have hcv := conv_one wr (48 + d) (by omega) (48 + (d : Int)) (by omega)
              have h1 := hst d 1 hdb (by omega)
              have h2 := Dgs.cons (dgc hdb) hod0.out
              obtain ⟨ch, hch⟩ : ∃ ch, UInt8.ofNat (48 + d) = ch := ⟨_, rfl⟩
              rw [hch] at h1 h2 hcv
              have HS := hid (And.intro h1 h2)
              have hB2 := hB.alloc hB.size (.cells #[.int .u8 (48 + (d : Int))] 5)
              clear hd hch h1 h2 hst hxy
              go_wp2_with fail
              refine hL1'.mono ?_
              rintro e w1 ⟨rfl, rfl⟩
              go_wp2_with fail
              refine hL2'.mono ?_
              rintro e w1 ⟨rfl, rfl⟩
              go_wp2
              go_roundw
              case rel => exact ⟨ch :: out, 1, i + 1, congrArg Value.string (by apply ByteArray.ext; simp [ByteArray.data_append]), by simp, by simp, hlt, by simp [hno.out], HS.out.2, by omega, hB2, HS.out.1⟩
              case measure => simp [intOf]; omega
          · obtain rfl : i = s.size := by omega
            have hfin := rsub_done (c := c) ds dt (by rw [txs_len]; exact hol) hod HLE.out (by rw [txs_len]; exact hv)
            have hne : out ≠ [] := by intro e; rw [e] at hol; simp at hol; omega
            have htrim := same_symm (rTrim_calls ⟨out.toArray⟩ (by simp [ByteArray.size]; omega) wr)
            rw [show tx ⟨out.toArray⟩ = out from tx_B out, trimL_dec hne hod, hfin] at htrim
            clear hfin hne hv hod hol
            go_wp2_with (go_at_call 33; refine htrim.mono ?_; rintro e w1 ⟨rfl, rfl⟩)
            go_ret2
            exact ⟨by rw [HR.out.1, HR.out.2]; rfl, hB⟩
      · have HR := hid (show subS s t = [] ∧ subE s t = 10 by unfold subS subE both; rw [h1, h2, decide_eq_false hle]; exact ⟨rfl, rfl⟩)
        rw [cmpI_lt (by omega)] at hc
        clear hle
        go_enter Tryz.func20, Tryz.ntmps20
        go_wp2_with (first
          | (go_at_call 22; refine (same_symm (rRight_calls _ (by assumption) _)).mono ?_; rintro e w1 ⟨rfl, rfl⟩)
          | (go_at_call 37; refine (hc _).mono ?_; rintro e w1 ⟨rfl, hb⟩))
        go_ret2
        exact ⟨by rw [HR.out.1, HR.out.2]; rfl, hb⟩
end Go.Proofs.YtdppcpiepippoaaGreatDoor
