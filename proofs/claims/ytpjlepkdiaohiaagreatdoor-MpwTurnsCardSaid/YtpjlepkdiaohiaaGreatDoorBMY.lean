/- MY: MqT. -/
import Derived.Test.YtpjlepkdiaohiaaGreatDoorBMV
import Derived.Test.YtpjlepkdiaohiaaGreatDoorBMO
import Derived.Test.YtpjlepkdiaohiaaGreatDoorBMW
namespace Go.Proofs.YtpjlepkdiaohiaaGreatDoor
open Go.RowKit
attribute [local go_sem] Oper.semAt_some

theorem z_chk : chk (.nd Pay.z []) 4 = 60 := by kernel_rfl
theorem turns_plain {S : ByteArray} {t : Tr} (hS : S.size ≤ 4000) (hx : rd 16 (tx S) = .ok t []) (hc : chk t 4 = 0) :
    (wrtS t).size ≤ S.size ∧ rd 16 (tx (wrtS t)) = .ok t [] ∧ rdN (wrtS t) = 0 := by
  obtain ⟨ho, -⟩ := chk_ok hc
  have hf := (rd_fine 16 _ t _ (by rw [txs_len]; omega) hx).1
  have hl := rd_enc_le 16 _ t _ hx ho
  rw [txs_len, List.length_nil, Nat.add_zero] at hl
  have he := rd_enc t ho hf 16 (rd_dep_le hx) []
  rw [List.append_nil] at he
  rw [wrtS_ok hc]
  have h1 : (B t.enc).size ≤ S.size := by rw [size_B]; exact hl
  have h2 : rd 16 (tx (B t.enc)) = .ok t [] := by rw [tx_B]; exact he
  refine ⟨h1, h2, ?_⟩
  unfold rdN
  rw [if_neg (by omega), h2]
  simp only [if_true]
  exact hc

set_option maxRecDepth 100000 in
set_option maxHeartbeats 8000000 in
theorem turns15_law (s : ByteArray) (w : World) {ea eb : Addr} (hT : TabQ w ea eb) :
    Calls Tryz.prog 14 #[.string s] w fun e w' => e = .returned (.bool true) ∧ Below w.heap.size w w' := by
  have hsh := shown15_calls w hT.tab
  have hm1 := pre_le (x := s.size) 1000
  have e1 := hid (min_toNat s.size 1000)
  have hPs := cut_size s 1000
  obtain ⟨S, hS⟩ : ∃ S, s.extract 0 (min s.size 1000) = S := ⟨_, rfl⟩
  rw [hS] at hPs
  have hrd := fun P (hp : P.size ≤ 1000000) W (h : Below w.heap.size w W) => read_calls P hp W (hT.below h)
  have hwr := fun (t : Tr) (hx : rd 16 (tx S) = .ok t []) W (hW : Below w.heap.size w W) sl (hi : InT W (ndV t.p sl) t) => write_calls t (rd_fine 16 _ t _ (by rw [txs_len]; omega) hx).1 (by have := rd_dep_le hx; omega) (by have := (rd_fine 16 _ t _ (by rw [txs_len]; omega) hx).2; rw [txs_len] at this; omega) sl W (hT.below hW).tab hi
  have hwz := fun W (hW : Below w.heap.size w W) => write_calls (.nd Pay.z []) (fine_leaf (show Pay.z.fine from raw_fine 0 (by decide) 0 (by decide) ⟨#[]⟩ (by decide))) (by decide +kernel) (by decide +kernel) (.slice none 0 0) W (hT.below hW).tab (InT.leaf W Pay.z 0 none)
  rw [z_chk] at hwz
  have HP := hid (And.intro hS (And.intro hPs (And.intro hrd (And.intro hwr hwz))))
  clear hS hPs hrd hwr hwz hT
  go_enter Tryz.func14, Tryz.ntmps14
  go_wp2_with fail
  refine hsh.mono ?_
  rintro e w1 ⟨rfl, hb1⟩
  have hr1 := HP.out.2.2.1 S (Nat.le_trans HP.out.2.1 (by decide)) _ hb1
  have HB := hid hb1
  clear hsh hb1
  go_wp2_with fail
  rw [show (min (s.size : Int) 1000).toNat = min s.size 1000 from e1.out, HP.out.1]
  refine hr1.mono ?_
  clear hr1
  rintro e w2 ⟨hb2, ⟨t, a, n, c, h4, hx, hc, -, rfl, hB⟩ | ⟨hne, rfl⟩⟩
  · obtain ⟨hq1, hq2, hq3⟩ := turns_plain h4 hx hc
    have hfin := (rd_fine 16 _ t _ (by rw [txs_len]; omega) hx).1
    have hbw := HB.out.trans (hb2.mono HB.out.size)
    have hbA := below_alloc w2 (.cells (ndL t.p (.slice a n c)).toArray 27)
    have hbw2 := hbw.trans (hbA.mono hbw.size)
    have hin := hB.toT.up hbA
    have hC2 := Cls.new w2 27 (ndL t.p (.slice a n c))
    have hw := HP.out.2.2.2.1 t hx _ hbw2 (.slice a n c) hin
    rw [hc] at hw
    obtain ⟨Q, hQ⟩ : ∃ Q, wrtS t = Q := ⟨_, rfl⟩
    rw [hQ] at hw hq1 hq2 hq3
    have HC := hid (And.intro hbw2 (And.intro hin (And.intro hC2 (And.intro hfin (And.intro hq1 (And.intro hq2 hq3))))))
    clear hbw hbA hbw2 hC2 hb2 hB hx hfin hin hQ hc hq1 hq2 hq3 h4
    simp only [ndV, ndL] at hw ⊢
    go_wp2_with fail
    refine hw.mono ?_
    clear hw
    rintro e w3 ⟨rfl, hb3⟩
    obtain ⟨hbw2, hin, hC2, hfin, hq1, hq2, hq3⟩ := HC.out
    have hbw3 := hbw2.trans (hb3.mono hbw2.size)
    have hr2 := HP.out.2.2.1 Q (by have := HP.out.2.1; omega) _ hbw3
    have HD := hid (And.intro hbw3 (And.intro (hin.up hb3) (And.intro (hC2.below hb3) (And.intro hfin (And.intro hq1 (And.intro hq2 hq3))))))
    clear hbw2 hin hC2 hfin hq1 hq2 hq3 hb3 hbw3 HC
    go_wp2_with fail
    refine hr2.mono ?_
    clear hr2
    obtain ⟨hbw3, hin, hC3, hfin, hq1, hq2, hq3⟩ := HD.out
    rintro e w4 ⟨hb4, ⟨t', a', n', c', -, hx', -, -, rfl, hB'⟩ | ⟨hne, rfl⟩⟩
    case inr => exact absurd hq3 hne
    obtain rfl : t = t' := by
      rw [hq2] at hx'
      injection hx'
    have hbA := below_alloc w4 (.cells (ndL t.p (.slice a' n' c')).toArray 27)
    have hC4 := hC3.below hb4
    have hbw4 := (hbw3.trans (hb4.mono hbw3.size)).trans (hbA.mono (hbw3.trans (hb4.mono hbw3.size)).size)
    have hsm := rsame_calls t hfin t (.slice a n c) (.slice a' n' c') _ ((hin.up hb4).up hbA) (hB'.toT.up hbA)
    rw [same_self] at hsm
    obtain ⟨x0, x1, x2, x3, x4, x5, x6, x7, x8⟩ := hC4.nine
    have l2 := hC4.lt
    have hqz : (Q.size : Int) ≤ S.size := Int.ofNat_le.2 hq1
    have HE := hid hbw4
    clear hbw3 hin hC3 hfin hq2 hq3 hx' hB' hbA hC4 hbw4 hb4 HD
    simp only [ndV, ndL] at hsm ⊢
    go_wp2_with fail
    refine hsm.mono ?_
    clear hsm
    rintro e w5 ⟨rfl, hb5⟩
    have HF := hid (HE.out.trans (hb5.mono HE.out.size))
    clear hb5 x0 x1 x2 x3 x4 x5 x6 x7 x8
    go_wp2
    go_ret
    exact ⟨by first | rfl | (simp; omega), HF.out⟩
  · obtain ⟨k, hk⟩ : ∃ k, rdN S = k := ⟨_, rfl⟩
    rw [hk] at hne ⊢
    have hkb : (k == 0) = false := by rw [beq_eq_false_iff_ne]; exact hne
    have hbw := HB.out.trans (hb2.mono HB.out.size)
    have hbA := below_alloc w2 (.cells (ndL Pay.z (.slice none 0 0)).toArray 27)
    have hbw2 := hbw.trans (hbA.mono hbw.size)
    have hw := HP.out.2.2.2.2 _ hbw2
    change Calls _ _ #[ndV Pay.z (.slice none 0 0), ] _ _ at hw
    have HC := hid hbw2
    clear hbw hbA hb2 hk hbw2
    simp only [ndV, ndL, Pay.z] at hw ⊢
    go_wp2_with fail
    refine hw.mono ?_
    rintro e w3 ⟨rfl, hb3⟩
    have HD := hid (HC.out.trans (hb3.mono HC.out.size))
    clear hw hb3
    go_wp2
    go_ret
    exact ⟨by first | rfl | simp, HD.out⟩
end Go.Proofs.YtpjlepkdiaohiaaGreatDoor

