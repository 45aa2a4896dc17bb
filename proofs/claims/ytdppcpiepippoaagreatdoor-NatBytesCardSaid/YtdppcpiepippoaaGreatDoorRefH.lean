/- The document's own naturals (targumref01): Bytes, OfBytes: walked. -/
import Derived.Test.YtdppcpiepippoaaGreatDoorRefG
import Derived.Deep.RegionWith
namespace Go.Proofs.YtdppcpiepippoaaGreatDoor
open Go.RowKit
attribute [local go_sem] Oper.semAt_some

def numV : Value → Nat
  | .string s => nv (tx s)
  | _ => 0
theorem numV_dec (n : Nat) : numV (.string ⟨(Lib.decDigits n).toArray⟩) = n := by
  show nv (tx ⟨(Lib.decDigits n).toArray⟩) = n
  rw [tx_dec, nv_dec]

theorem bytesL_pos {n : Nat} (h : n ≠ 0) : bytesL n = bytesL (n / 256) ++ [UInt8.ofNat (n % 256)] := by
  unfold bytesL
  rw [bdig_pos h, List.reverse_cons, List.map_append]; rfl
theorem bytesL_zero : bytesL 0 = [] := by unfold bytesL; rw [bdig_zero]; rfl

theorem rdiv_256 (x : Nat) (h : Lib.nDigits x ≤ 400) (w : World) :
    Calls Tryz.prog 28 #[.string ⟨(Lib.decDigits x).toArray⟩, .int .u32 256] w fun e w' => e = .returned (.tuple #[.string ⟨(Lib.decDigits (x / 256)).toArray⟩, .int .u32 (x % 256 : Nat), .int .i64 0]) ∧ Below w.heap.size w w' := by
  have hd := rDiv_calls ⟨(Lib.decDigits x).toArray⟩ 256 (by omega) (by rw [size_dec]; omega) w
  have hg : (isRt (tx ⟨(Lib.decDigits x).toArray⟩) && decide ((256 : Nat) ≠ 0)) = true := by rw [tx_dec, rrt_dec h]; rfl
  unfold rdivQ rdivR rdivE at hd
  rw [if_pos hg, if_pos hg, if_pos hg, tx_dec, nv_dec] at hd
  exact hd

set_option maxRecDepth 100000 in
set_option maxHeartbeats 4000000 in
theorem rBytes_calls (s : ByteArray) (hs : s.size ≤ 140737488355328) (w : World) :
    Calls Tryz.prog 8 #[.string s] w fun e w' => e = .returned (.tuple #[.string ⟨(bytS s).toArray⟩, .int .i64 (bytE s)]) ∧ Below w.heap.size w w' := by
  cases h1 : isRt (tx s) with
  | false =>
    have HR := hid (show bytS s = [] ∧ bytE s = 10 by unfold bytS bytE; rw [h1]; exact ⟨rfl, rfl⟩)
    go_enter Tryz.func8, Tryz.ntmps8
    go_wp2_with (go_at_call 22; refine (same_symm (rRight_calls _ (by assumption) _)).mono ?_; rintro e w1 ⟨rfl, rfl⟩)
    go_ret2
    exact ⟨by rw [HR.out.1, HR.out.2]; rfl, Below.refl _ _⟩
  | true =>
    have HR := hid (show bytS s = bytesL (nv (tx s)) ∧ bytE s = 0 by unfold bytS bytE; rw [h1]; exact ⟨rfl, rfl⟩)
    have hlen := rt_bytes h1
    have hnd := rt_nd h1
    have hsd : s = ⟨(Lib.decDigits (nv (tx s))).toArray⟩ := by rw [← ((isRt_iff _).1 h1).1]; exact (str_eq s).symm
    obtain ⟨n, hn⟩ : ∃ n, nv (tx s) = n := ⟨_, rfl⟩
    rw [hn] at HR hlen hnd hsd
    have HS := hid hsd
    clear hn hsd
    go_enter Tryz.func8, Tryz.ntmps8
    go_wp2_with (go_at_call 22; refine (same_symm (rRight_calls _ (by assumption) _)).mono ?_; rintro e w1 ⟨rfl, rfl⟩)
    go_loopw [0, 4] (fun a o wr => ∃ (x : Nat) (out : List UInt8), a = .string ⟨(Lib.decDigits x).toArray⟩ ∧ o = .string ⟨out.toArray⟩ ∧ Lib.nDigits x ≤ 400 ∧ (bdig x).length + out.length ≤ 400 ∧ bytesL n = bytesL x ++ out ∧ Below w.heap.size w wr) (fun a _ _ => numV a)
    case atStart => exact ⟨n, [], congrArg Value.string HS.out, rfl, hnd, by simpa using hlen, by simp, Below.refl _ _⟩
    case round =>
      obtain ⟨x, out, rfl, rfl, hx4, hol, hv, hB⟩ := hrel
      by_cases hx0 : x = 0
      · subst hx0
        rw [bytesL_zero, List.nil_append] at hv
        rw [show Lib.decDigits 0 = [48] by rw [dec_small (by decide)]; rfl]
        have HV := hid hv
        clear hv
        go_wp2
        go_ret2
        exact ⟨by rw [HR.out.1, HR.out.2, HV.out]; rfl, hB⟩
      · have hdv := rdiv_256 x hx4
        have hne : Lib.decDigits x ≠ [48] := fun e => hx0 (dec_inj (e.trans (by rw [dec_small (by decide)]; rfl)))
        have hlow : Lib.nDigits (x / 256) ≤ 400 := Nat.le_trans (rdig_up (Nat.div_le_self x 256)) hx4
        have hlt : x / 256 < x := Nat.div_lt_self (by omega) (by decide)
        have hbl : (bdig (x / 256)).length + (out.length + 1) ≤ 400 := by rw [bdig_pos hx0, List.length_cons] at hol; omega
        rw [bytesL_pos hx0, List.append_assoc] at hv
        obtain ⟨q, hq⟩ : ∃ q, x / 256 = q := ⟨_, rfl⟩
        obtain ⟨r, hr⟩ : ∃ r, x % 256 = r := ⟨_, rfl⟩
        rw [hq, hr] at hdv
        rw [hq] at hlow hbl hv hlt
        rw [hr] at hv
        have hrb : r < 256 := by omega
        have hcv := fun W => conv_one W r hrb (r : Int) rfl
        obtain ⟨ch, hch⟩ : ∃ ch, UInt8.ofNat r = ch := ⟨_, rfl⟩
        rw [hch] at hv hcv
        obtain ⟨a0, ha0⟩ : ∃ a0 : ByteArray, ⟨(Lib.decDigits x).toArray⟩ = a0 := ⟨_, rfl⟩
        have hnum : numV (.string a0) = x := by rw [← ha0]; exact numV_dec x
        have hla : a0.toList = Lib.decDigits x := by rw [← ha0, Lib.toList_data]
        rw [ha0] at hdv ⊢
        obtain ⟨a1, ha1⟩ : ∃ a1 : ByteArray, ⟨(Lib.decDigits q).toArray⟩ = a1 := ⟨_, rfl⟩
        have hnum1 : numV (.string a1) = q := by rw [← ha1]; exact numV_dec q
        rw [ha1] at hdv
        have hne1 : (a0.toList == [48]) = false := by rw [beq_eq_false_iff_ne, hla]; exact hne
        have hne2 : (a0.toList != [48]) = true := by rw [bne_iff_ne, hla]; exact hne
        have HX := hid (And.intro hv (And.intro ha1.symm (And.intro hnum (And.intro hnum1 (And.intro hlow hbl)))))
        have hob : (out.length : Int) ≤ 400 := by omega
        have hwr : IntKind.u8.wrap (r : Int) = (r : Int) := by rw [IntKind.wrap_u8]; omega
        clear hq hr hv hch ha0 ha1 hnum hnum1 hla hne hx0 hol hlow hbl
        go_wp2_with (go_at_call 28; refine (hdv _).mono ?_; rintro e w1 ⟨rfl, hb⟩; have hcv1 := hcv w1; clear hcv)
        obtain ⟨hv, ha1, hnum, hnum1, hlow, hbl⟩ := HX.out
        exact ⟨⟨q, ch :: out, congrArg Value.string ha1, congrArg Value.string (by apply ByteArray.ext; simp [ByteArray.data_append]), hlow, by rw [List.length_cons]; exact hbl, hv, (hB.trans (hb.mono hB.size)).alloc (Nat.le_trans hB.size hb.size) _⟩, by rw [hnum, hnum1]; exact hlt⟩

theorem dec_256 : Lib.decDigits 256 = [50, 53, 54] := by
  rw [dec_big (by decide), dec_big (by decide), dec_small (by decide)]; rfl

set_option maxRecDepth 100000 in
set_option maxHeartbeats 4000000 in
theorem rOfBytes_calls (s : ByteArray) (hs : s.size ≤ 140737488355328) (w : World) :
    Calls Tryz.prog 10 #[.string s] w fun e w' => e = .returned (.tuple #[.string ⟨(ofbS s).toArray⟩, .int .i64 (ofbE s)]) ∧ Below w.heap.size w w' := by
  have hlen : (tx s).length = s.size := len_str s
  by_cases hz : (tx s).head? = some 0
  · have hS := hid (show ofbS s = [] ∧ ofbE s = 10 from ⟨if_pos hz, if_pos hz⟩)
    have hpos : 0 < s.size := by
      rw [← hlen]
      cases h : tx s with
      | nil => rw [h] at hz; cases hz
      | cons a r => simp
    have hb0 : (((s[0].toNat : Nat) : Int) == 0) = true := by
      have := head_of s hpos
      rw [show s.data.toList.head? = some 0 from hz] at this
      rw [beq_iff_eq]
      exact (byte0 _).1 (Option.some.inj this).symm
    clear hz hlen
    go_enter Tryz.func10, Tryz.ntmps10
    go_wp2
    go_ret2
    exact ⟨by rw [hS.out.1, hS.out.2]; rfl, Below.refl _ _⟩
  have hS := hid (show ofbS s = fitS (bv (tx s)) ∧ ofbE s = fitE (bv (tx s)) from ⟨if_neg hz, if_neg hz⟩)
  have hb0 : s.size = 0 ∨ (0 < s.size ∧ ∀ h : 0 < s.size, (((s[0].toNat : Nat) : Int) == 0) = false) := by
    by_cases h0 : s.size = 0
    · exact .inl h0
    · refine .inr ⟨by omega, fun hpos => ?_⟩
      have := head_of s hpos
      rw [show s.data.toList.head? = (tx s).head? from rfl] at this
      rw [beq_eq_false_iff_ne]
      intro e
      exact hz (this.trans (congrArg some ((byte0 _).2 e)))
  clear hz
  have hloop : ∀ (z0 : (s.size : Int) ≤ 0 ∨ (0 < s.size ∧ ∀ h : 0 < s.size, (((s[0].toNat : Nat) : Int) == 0) = false)), Calls Tryz.prog 10 #[.string s] w fun e w' => e = .returned (.tuple #[.string ⟨(ofbS s).toArray⟩, .int .i64 (ofbE s)]) ∧ Below w.heap.size w w' := by
    have HL := hid hlen
    clear hb0 hlen
    intro z0
    have z1 : (s.size : Int) ≤ 0 ∨ ((0 : Int) < s.size ∧ ∃ h : 0 < s.size, (((s[0].toNat : Nat) : Int) == 0) = false) := by
      rcases z0 with h | ⟨h, h'⟩
      · exact .inl h
      · exact .inr ⟨by omega, h, h' h⟩
    clear z0
    rcases z1 with z1 | ⟨z1, hpos, z2⟩
    all_goals (
      go_enter Tryz.func10, Tryz.ntmps10
      go_wp2
      go_loopw [4, 5] (fun v i wr => ∃ (k : Nat), i = .int .i64 k ∧ k ≤ s.size ∧ v = .string ⟨(Lib.decDigits (bv ((tx s).take k))).toArray⟩ ∧ Lib.nDigits (bv ((tx s).take k)) ≤ 400 ∧ Below w.heap.size w wr) (fun _ i _ => s.size - (intOf i).toNat)
      case atStart => exact ⟨0, rfl, Nat.zero_le _, by rw [List.take_zero, show bv [] = 0 from rfl, dec_small (by decide)]; rfl, by rw [List.take_zero, show bv [] = 0 from rfl]; have := rdig_lt 0 0 (by decide); omega, Below.refl _ _⟩
      case round =>
        obtain ⟨k, rfl, hk, rfl, hnd, hB⟩ := hrel
        by_cases hlt : k < s.size
        · have hlt' : (k : Int) < (s.size : Int) := by omega
          obtain ⟨ch, hch⟩ : ∃ ch, s[k] = ch := ⟨_, rfl⟩
          have hstep : bv ((tx s).take (k + 1)) = bv ((tx s).take k) * 256 + ch.toNat := by rw [bv_take (by rw [HL.out]; exact hlt), ← hch]; rfl
          have hmon := bv_le (tx s) (k + 1)
          obtain ⟨m, hm⟩ : ∃ m, bv ((tx s).take k) = m := ⟨_, rfl⟩
          rw [hm] at hstep hnd
          rw [hm]
          have hchb : ch.toNat < 256 := ch.toNat_lt
          obtain ⟨y, hy⟩ : ∃ y : Nat, ch.toNat = y := ⟨_, rfl⟩
          rw [hy] at hstep hchb
          have h256 : Lib.nDigits 256 ≤ 3 := by rw [← Lib.decDigits_length, dec_256]; simp
          have hmul := fun W => rmul_dec m 256 (by omega) (by omega) W
          rw [dec_256] at hmul
          have hOf := rOf_calls y (by omega)
          have hyd : Lib.nDigits y ≤ 4 := rdig_le (k := 3) (by omega)
          have hmd : Lib.nDigits (m * 256) ≤ 404 := rmul_digits (j := 400) (k := 3) hnd h256
          have hadd := fun W => radd_calls ⟨(Lib.decDigits (m * 256)).toArray⟩ ⟨(Lib.decDigits y).toArray⟩ (by rw [tx_dec]; exact Dgs.dec _) (by rw [tx_dec]; exact Dgs.dec _) (by rw [size_dec]; exact rdig_one _) (by rw [size_dec]; omega) (by rw [size_dec]; omega) W
          rw [tx_dec, tx_dec, nv_dec, nv_dec] at hadd
          obtain ⟨s1, hs1⟩ : ∃ s1 : ByteArray, ⟨(Lib.decDigits (m * 256)).toArray⟩ = s1 := ⟨_, rfl⟩
          obtain ⟨s2, hs2⟩ : ∃ s2 : ByteArray, ⟨(Lib.decDigits y).toArray⟩ = s2 := ⟨_, rfl⟩
          obtain ⟨s0, hs0⟩ : ∃ s0 : ByteArray, ⟨(Lib.decDigits m).toArray⟩ = s0 := ⟨_, rfl⟩
          rw [hs1, hs2] at hadd
          rw [hs1, hs0] at hmul
          rw [hs2] at hOf
          rw [hs0]
          have htrim : ∀ (l : List UInt8), l ≠ [] → Dgs l → l.length ≤ 2000 → nv l = m * 256 + y → ∀ W, Calls Tryz.prog 33 #[.string ⟨l.toArray⟩] W fun e w' => e = .returned (.string ⟨(Lib.decDigits (bv ((tx s).take (k + 1)))).toArray⟩) ∧ w' = W := fun l a b c d W => by
            have h := rTrim_calls ⟨l.toArray⟩ (by simp [ByteArray.size]; omega) W
            rw [show tx ⟨l.toArray⟩ = l from tx_B l, trimL_dec a b, d, ← hstep] at h
            exact h
          obtain ⟨c, hc⟩ : ∃ c, Lib.nDigits (bv ((tx s).take (k + 1))) = c := ⟨_, rfl⟩
          obtain ⟨s3, hs3⟩ : ∃ s3 : ByteArray, ⟨(Lib.decDigits (bv ((tx s).take (k + 1)))).toArray⟩ = s3 := ⟨_, rfl⟩
          rw [hs3] at htrim
          have hz3 : s3.size = c := by rw [← hs3, size_dec, hc]
          have hwy : IntKind.u64.wrap (y : Int) = (y : Int) := IntWalk.u64_in _ (by omega)
          have hchi : ((s[k].toNat : Nat) : Int) = (y : Int) := by rw [hch, hy]
          have htest : (s3.size : Int) ≤ 400 ∨ (400 : Int) < (s3.size : Int) := by omega
          have HX := hid (And.intro hmon (And.intro hc (And.intro hs3 hz3)))
          have HT := hid htrim
          clear hstep hmon hc hm hs0 hs1 hs2 hs3 hz3 hch hy h256 hyd hmd htrim
          go_wp2
          go_region_with (first
            | (go_at_call 35; refine (hmul _).mono ?_; rintro e w2 ⟨rfl, hb2⟩)
            | (go_at_call 14; refine (hOf _).mono ?_; rintro e w3 ⟨rfl, hb3⟩)
            | (go_at_call 34; refine (hadd _).mono ?_; rintro e w4 ⟨⟨l, rfl, a1, a2, a3, a4⟩, hb4⟩; have A4 := hid a4; clear a4)
            | (go_at_call 33; refine (HT.out l a1 a2 a3 A4.out _).mono ?_; rintro e w5 ⟨rfl, rfl⟩))
          all_goals (
            have hB4 : Below w.heap.size w w5 := by
              first
              | exact hB.drew.trans ((hb2.mono hB.drew.size).trans ((hb3.mono (Nat.le_trans hB.drew.size hb2.size)).trans (hb4.mono (Nat.le_trans hB.drew.size (Nat.le_trans hb2.size hb3.size)))))
              | exact hB.drew.trans ((hb3.mono hB.drew.size).trans ((hb2.mono (Nat.le_trans hB.drew.size hb3.size)).trans (hb4.mono (Nat.le_trans hB.drew.size (Nat.le_trans hb3.size hb2.size)))))
            clear hmul hOf hadd HT A4 a1 a2 a3
            rcases htest with htest | htest
            · go_wp2
              all_goals (
                obtain ⟨hmon, hc, hs3, hz3⟩ := id HX.out
                exact ⟨⟨k + 1, by simp, hlt, congrArg Value.string hs3.symm, by omega, hB4⟩, by simp [intOf]; omega⟩)
            · go_wp2
              all_goals (
                go_ret2
                obtain ⟨hmon, hc, hs3, hz3⟩ := id HX.out
                have hl : ¬ Lib.nDigits (bv (tx s)) ≤ 400 := fun h => by
                  have := rdig_up hmon
                  omega
                exact ⟨by rw [hS.out.1, hS.out.2, show fitS (bv (tx s)) = [] from if_neg hl, show fitE (bv (tx s)) = 11 from if_neg hl]; rfl, hB4⟩))
        · obtain rfl : k = s.size := by omega
          rw [show (tx s).take s.size = tx s from List.take_of_length_le (by rw [HL.out]; exact Nat.le_refl _)] at hnd ⊢
          have HF := hid (show fitS (bv (tx s)) = Lib.decDigits (bv (tx s)) ∧ fitE (bv (tx s)) = 0 from ⟨if_pos hnd, if_pos hnd⟩)
          go_wp2
          go_ret2
          exact ⟨by rw [hS.out.1, hS.out.2, HF.out.1, HF.out.2]; rfl, hB⟩)
  exact hloop (hb0.imp (fun h => by omega) id)
end Go.Proofs.YtdppcpiepippoaaGreatDoor
