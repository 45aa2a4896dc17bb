/- The document's own naturals (targumref01): compare, Compare, add, Add, Sub: walked. -/
import Derived.Test.YtdppcpiepippoaaGreatDoorRefD
import Derived.Test.YtdppcpiepippoaaGreatDoorNatS
namespace Go.Proofs.YtdppcpiepippoaaGreatDoor
open Go.RowKit
attribute [local go_sem] Oper.semAt_some

theorem cmpI_lt {m n : Nat} (h : m < n) : cmpI (m : Nat) (n : Nat) = -1 := by unfold cmpI; rw [if_pos (by omega)]
theorem cmpI_gt {m n : Nat} (h : n < m) : cmpI (m : Nat) (n : Nat) = 1 := by unfold cmpI; rw [if_neg (by omega), if_pos (by omega)]
theorem cmpI_eq {m n : Nat} (h : m = n) : cmpI (m : Nat) (n : Nat) = 0 := by unfold cmpI; rw [if_neg (by omega), if_neg (by omega)]

set_option maxRecDepth 100000 in
set_option maxHeartbeats 2000000 in
theorem rcompare_calls (s t : ByteArray) (hs : isRt (tx s) = true) (ht : isRt (tx t) = true) (w : World) :
    Calls Tryz.prog 37 #[.string s, .string t] w fun e w' => e = .returned (.int .i64 (cmpI (nv (tx s)) (nv (tx t)))) ∧ Below w.heap.size w w' := by
  have ls := rt_len hs
  have lt := rt_len ht
  rw [txs_len] at ls lt
  have ds := Dgs.rt hs
  have dt := Dgs.rt ht
  by_cases hl : s.size = t.size
  · have hbe : ((s.size : Int) != (t.size : Int)) = false := by rw [bne_eq_false_iff_eq]; omega
    have hll : (tx s).length = (tx t).length := by rw [txs_len, txs_len]; exact hl
    have HL := hid (And.intro hl (And.intro hs ht))
    have HLL := hid hll
    have hle : t.size ≤ s.size ∧ s.size ≤ t.size := ⟨by omega, by omega⟩
    obtain ⟨hle1, hle2⟩ := hle
    clear hl hs ht hll
    go_enter Tryz.func37, Tryz.ntmps37
    go_wp2
    go_loopw [5] (fun i wr => ∃ k : Nat, i = .int .i64 k ∧ k ≤ s.size ∧ (tx s).take k = (tx t).take k ∧ Below w.heap.size w wr) (fun i _ => s.size - (intOf i).toNat)
    case atStart => exact ⟨0, rfl, Nat.zero_le _, by rw [List.take_zero, List.take_zero], Below.refl _ _⟩
    case round =>
      obtain ⟨k, rfl, hk, hT, hB⟩ := hrel
      by_cases hlt : k < s.size
      · have hlt2 : k < t.size := by omega
        have h1 := txs_take s hlt
        have h2 := txs_take t hlt2
        obtain ⟨c, hc⟩ : ∃ c, s[k] = c := ⟨_, rfl⟩
        obtain ⟨d, hd⟩ : ∃ d, t[k] = d := ⟨_, rfl⟩
        rw [hc] at h1
        rw [hd] at h2
        have hx : (tx s)[k]'(by rw [txs_len]; exact hlt) = c := hc
        have hy : (tx t)[k]'(by rw [txs_len]; exact hlt2) = d := hd
        rcases Nat.lt_trichotomy c.toNat d.toNat with hcd | hcd | hcd
        · have HR := hid (cmpI_lt (nv_less ds dt HLL.out (by rw [txs_len]; exact hlt) hT (by rw [hx, hy]; exact hcd)))
          have hi1 : (c.toNat : Int) < (d.toNat : Int) := by omega
          clear h1 h2 hT hx hy hcd ds dt
          go_wp2
          go_quiet (fail)
          go_wp2
          go_ret
          exact ⟨ret_int HR.out.symm, below_drewN hB _⟩
        · have hcd' : c = d := UInt8.toNat_inj.1 hcd
          have HR := hid (show (tx s).take (k + 1) = (tx t).take (k + 1) by rw [h1, h2, hT, hcd'])
          subst hcd'
          clear h1 h2 hT hx hy hcd ds dt
          go_wp2
          go_quiet (fail)
          go_wp2
          go_quiet (fail)
          go_wp2
          go_roundw
          case rel => exact ⟨k + 1, by simp, hlt, HR.out, by first | exact below_drewN hB _ | exact below_drewN (below_drewN hB _) _⟩
          case measure => simp [intOf]; omega
        · have HR := hid (cmpI_gt (nv_less dt ds HLL.out.symm (by rw [txs_len]; exact hlt2) hT.symm (by rw [hx, hy]; exact hcd)))
          have hi1 : (d.toNat : Int) < (c.toNat : Int) := by omega
          clear h1 h2 hT hx hy hcd ds dt
          go_wp2
          go_quiet (fail)
          go_wp2
          go_quiet (fail)
          go_wp2
          go_ret
          exact ⟨ret_int HR.out.symm, by first | exact below_drewN hB _ | exact below_drewN (below_drewN hB _) _⟩
      · have hse : tx s = tx t := by
          rw [List.take_of_length_le (by rw [txs_len]; omega), List.take_of_length_le (by rw [txs_len]; omega)] at hT
          exact hT
        have HR := hid (cmpI_eq (congrArg nv hse))
        clear hse hT ds dt
        go_wp2
        go_ret
        exact ⟨ret_int HR.out.symm, hB⟩
  · have hbe : ((s.size : Int) != (t.size : Int)) = true := by rw [bne_iff_ne]; omega
    rcases Nat.lt_or_gt_of_ne hl with h | h
    · have HR := hid (cmpI_lt (nv_shorter hs ht (by rw [txs_len, txs_len]; exact h)))
      clear hs ht hl ds dt
      go_enter Tryz.func37, Tryz.ntmps37
      go_wp2
      go_ret
      exact ⟨ret_int HR.out.symm, Below.refl _ _⟩
    · have HR := hid (cmpI_gt (nv_shorter ht hs (by rw [txs_len, txs_len]; exact h)))
      clear hs ht hl ds dt
      go_enter Tryz.func37, Tryz.ntmps37
      go_wp2
      go_ret
      exact ⟨ret_int HR.out.symm, Below.refl _ _⟩

set_option maxRecDepth 100000 in
theorem rCompare_calls (s t : ByteArray) (hs : s.size ≤ 140737488355328) (ht : t.size ≤ 140737488355328) (w : World) :
    Calls Tryz.prog 16 #[.string s, .string t] w fun e w' => e = .returned (.tuple #[.int .i64 (cmpR s t), .int .i64 (cmpE s t)]) ∧ Below w.heap.size w w' := by
  cases h1 : isRt (tx s) with
  | false =>
    have HR := hid (show cmpR s t = 0 ∧ cmpE s t = 10 by unfold cmpR cmpE both; rw [h1]; exact ⟨rfl, rfl⟩)
    go_enter Tryz.func16, Tryz.ntmps16
    go_wp2_with (go_at_call 22; refine (rRight_calls _ (by assumption) _).mono ?_; rintro e w1 ⟨rfl, rfl⟩)
    go_ret2
    exact ⟨by rw [HR.out.1, HR.out.2]; rfl, Below.refl _ _⟩
  | true =>
    cases h2 : isRt (tx t) with
    | false =>
      have HR := hid (show cmpR s t = 0 ∧ cmpE s t = 10 by unfold cmpR cmpE both; rw [h1, h2]; exact ⟨rfl, rfl⟩)
      go_enter Tryz.func16, Tryz.ntmps16
      go_wp2_with (go_at_call 22; refine (rRight_calls _ (by assumption) _).mono ?_; rintro e w1 ⟨rfl, rfl⟩)
      go_ret2
      exact ⟨by rw [HR.out.1, HR.out.2]; rfl, Below.refl _ _⟩
    | true =>
      have HR := hid (show cmpR s t = cmpI (nv (tx s)) (nv (tx t)) ∧ cmpE s t = 0 by unfold cmpR cmpE both; rw [h1, h2]; exact ⟨rfl, rfl⟩)
      have hc := rcompare_calls s t h1 h2
      obtain ⟨z, hz⟩ : ∃ z, cmpI (nv (tx s)) (nv (tx t)) = z := ⟨_, rfl⟩
      rw [hz] at hc HR
      clear hz
      go_enter Tryz.func16, Tryz.ntmps16
      go_wp2_with (first
        | (go_at_call 22; refine (rRight_calls _ (by assumption) _).mono ?_; rintro e w1 ⟨rfl, rfl⟩)
        | (go_at_call 37; refine (hc _).mono ?_; rintro e w1 ⟨rfl, hb⟩))
      go_ret2
      exact ⟨by rw [HR.out.1, HR.out.2]; rfl, hb⟩

set_option maxRecDepth 100000 in
set_option maxHeartbeats 4000000 in
theorem radd_calls (s t : ByteArray) (hs : Dgs (tx s)) (ht : Dgs (tx t)) (h1 : 1 ≤ s.size) (hsl : s.size ≤ 500) (htl : t.size ≤ 500) (w : World) :
    Calls Tryz.prog 34 #[.string s, .string t] w fun e w' => (∃ l : List UInt8, e = .returned (.string ⟨l.toArray⟩) ∧ l ≠ [] ∧ Dgs l ∧ l.length ≤ 2000 ∧ nv l = nv (tx s) + nv (tx t)) ∧ Below w.heap.size w w' := by
  obtain ⟨m, hm⟩ : ∃ m, max s.size t.size = m := ⟨_, rfl⟩
  have hm1 : s.size ≤ m ∧ t.size ≤ m ∧ m ≤ 500 ∧ (m = s.size ∨ m = t.size) := by omega
  obtain ⟨hm1, hm2, hm3, hm4⟩ := hm1
  clear hm
  go_enter Tryz.func34, Tryz.ntmps34
  go_wp2
  go_loopw [5, 6, 7] (fun o c d wr => ∃ (out : List UInt8) (cc i : Nat), o = .string ⟨out.toArray⟩ ∧ c = .int .i64 cc ∧ d = .int .i64 i ∧ out.length = i ∧ Dgs out ∧ cc ≤ 1 ∧ Below w.heap.size w wr ∧
      nv out + 10 ^ i * (cc + nv (tx s) / 10 ^ i + nv (tx t) / 10 ^ i) = nv (tx s) + nv (tx t) ∧ (i ≤ m ∨ i = m + 1 ∧ cc = 0)) (fun _ _ d _ => m + 2 - (intOf d).toNat)
  case atStart => exact ⟨[], 0, 0, rfl, rfl, rfl, rfl, Dgs.nil, by omega, Below.refl _ _, by rw [nv_nil, Nat.pow_zero, Nat.div_one, Nat.div_one]; omega, .inl (Nat.zero_le _)⟩
  case round =>
    obtain ⟨out, c, i, rfl, rfl, rfl, hol, hod, hcb, hB, hv, him⟩ := hrel
    have hib : i ≤ 501 := by omega
    by_cases hgo : i < m ∨ 0 < c
    · have hL1 := rdigit_calls s (by omega) hs i (by omega)
      have hL2 := rdigit_calls t (by omega) ht i (by omega)
      obtain ⟨x, hxe⟩ : ∃ x, dgt (tx s) i = x := ⟨_, rfl⟩
      obtain ⟨y, hye⟩ : ∃ y, dgt (tx t) i = y := ⟨_, rfl⟩
      have hxb := dgt_lt (tx s) hs i
      have hyb := dgt_lt (tx t) ht i
      have hst := radd_step hs ht hol hv
      have hlast : m ≤ i → x = 0 ∧ y = 0 := fun h => by
        rw [← hxe, ← hye]
        unfold dgt
        rw [txs_len, txs_len, if_neg (by omega), if_neg (by omega)]
        exact ⟨rfl, rfl⟩
      rw [hxe] at hL1 hxb hst
      rw [hye] at hL2 hyb hst
      obtain ⟨n, hn⟩ : ∃ n, x + y + c = n := ⟨_, rfl⟩
      rw [hn] at hst
      have hni : (x : Int) + (y : Int) + (c : Int) = (n : Int) := by omega
      have hnb : n ≤ 19 := by omega
      have hod' := Dgs.cons (dgc (show n % 10 < 10 by omega)) hod
      have hcv := fun W => conv_one W (48 + n % 10) (by omega) (48 + (n : Int) % 10) (by omega)
      obtain ⟨ch, hch⟩ : ∃ ch, UInt8.ofNat (48 + n % 10) = ch := ⟨_, rfl⟩
      rw [hch] at hst hod' hcv
      obtain ⟨q, hq⟩ : ∃ q, n / 10 = q := ⟨_, rfl⟩
      have hqi : (n : Int) / 10 = (q : Int) := by omega
      rw [hq] at hst
      have hqb : q ≤ 1 := by omega
      have hnext : i + 1 ≤ m ∨ i + 1 = m + 1 ∧ q = 0 := by
        by_cases h : i < m
        · exact .inl h
        · obtain ⟨hx0, hy0⟩ := hlast (by omega)
          rcases hgo with h' | h'
          · exact absurd h' h
          · rcases him with h3 | h3
            · exact .inr ⟨by omega, by omega⟩
            · omega
      have HS := hid (And.intro hst (And.intro hod' (And.intro hol hnext)))
      have hiom : i ≤ m := by omega
      have hob : (out.length : Int) ≤ 2000 := by omega
      have hcvw := hcv wr
      have hB2 := hB.alloc hB.size (.cells #[.int .u8 (48 + (n : Int) % 10)] 5)
      have hL1' := same_symm (hL1 wr)
      have hL2' := same_symm (hL2 wr)
      have hcase : (i : Int) < (s.size : Int) ∨ ((s.size : Int) ≤ (i : Int) ∧ (i : Int) < (t.size : Int)) ∨ ((s.size : Int) ≤ (i : Int) ∧ (t.size : Int) ≤ (i : Int) ∧ 0 < c) := by omega
      clear hxe hye hn hch hq hst hod' hol hv hlast hnext hgo him hL1 hL2 hcv hs ht
      rcases hcase with e1 | ⟨e1, e2⟩ | ⟨e1, e2, e3⟩
      all_goals (
        go_wp2_with fail
        refine hL1'.mono ?_
        rintro e w1 ⟨rfl, rfl⟩
        go_wp2_with fail
        refine hL2'.mono ?_
        rintro e w1 ⟨rfl, rfl⟩
        go_wp2
        go_roundw
        case rel => exact ⟨ch :: out, q, i + 1, congrArg Value.string (by apply ByteArray.ext; simp [ByteArray.data_append]), by simp, by simp, by simp [HS.out.2.2.1], HS.out.2.1, hqb, hB2, HS.out.1, HS.out.2.2.2⟩
        case measure => simp [intOf]; omega)
    · obtain rfl : c = 0 := by omega
      have hfin := radd_done hs ht (i := i) (by rw [txs_len]; omega) (by rw [txs_len]; omega) hv
      have hne : out ≠ [] := by intro e; rw [e] at hol; simp at hol; omega
      have e1 : (s.size : Int) ≤ (i : Int) := by omega
      have e2 : (t.size : Int) ≤ (i : Int) := by omega
      have HF := hid (And.intro hne (And.intro hod (And.intro (show out.length ≤ 2000 by omega) hfin)))
      clear hne hod hfin hv hol hs ht him hgo
      go_wp2
      go_ret
      exact ⟨⟨out, rfl, HF.out⟩, hB⟩
end Go.Proofs.YtdppcpiepippoaaGreatDoor
