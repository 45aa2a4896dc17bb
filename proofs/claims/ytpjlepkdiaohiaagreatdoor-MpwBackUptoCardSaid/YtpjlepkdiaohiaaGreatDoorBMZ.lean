/- MZ: MqV BackA. -/
import Derived.Test.YtpjlepkdiaohiaaGreatDoorBMX
import Derived.Test.YtpjlepkdiaohiaaGreatDoorBMO
import Derived.Test.YtpjlepkdiaohiaaGreatDoorBMS
import Derived.Test.YtpjlepkdiaohiaaGreatDoorBMF
import Derived.Test.YtpjlepkdiaohiaaGreatDoorBMU
import Derived.JoinedCond
namespace Go.Proofs.YtpjlepkdiaohiaaGreatDoor
open Go.RowKit
attribute [local go_sem] Oper.semAt_some

theorem back15_plain {n : Tr} (hf : n.fine) (hcn : n.cnt ≤ 1048576) (hc : chk n 4 = 0) (M : ByteArray) :
    (wrtS n).size ≤ 123000 ∧ rd 16 (tx (wrtS n ++ M)) = .ok n (tx M) ∧ rd 16 (tx (wrtS n)) = .ok n [] ∧ ((4000 < (wrtS n).size ∧ rdN (wrtS n) = 81) ∨ ((wrtS n).size ≤ 4000 ∧ rdN (wrtS n) = 0)) := by
  obtain ⟨ho, hr⟩ := chk_ok hc
  unfold Tr.right at hr
  rw [Bool.and_eq_true, Bool.and_eq_true, decide_eq_true_iff, decide_eq_true_iff] at hr
  obtain ⟨h3, hd, -⟩ := hr
  have h3' : n.cnt ≤ 300 := by
    rw [wrapI_id (by omega)] at h3
    omega
  have hl := (enc_len n ho).2
  have he := rd_enc n ho hf 16 hd
  rw [wrtS_ok hc]
  have h1 : (B n.enc).size ≤ 123000 := by rw [size_B]; omega
  have h2 : rd 16 (tx (B n.enc)) = .ok n [] := by rw [tx_B]; have := he []; rwa [List.append_nil] at this
  refine ⟨h1, by rw [tx_cat, tx_B]; exact he _, h2, ?_⟩
  by_cases h4 : 4000 < (B n.enc).size
  · exact .inl ⟨h4, by unfold rdN; rw [if_pos h4]⟩
  · refine .inr ⟨by omega, ?_⟩
    unfold rdN
    rw [if_neg h4, h2]
    simp only [if_true]
    exact hc

set_option maxRecDepth 100000 in
set_option maxHeartbeats 8000000 in
theorem back_law (t : Tr) (hwf : t.wf) (hct : t.cnt ≤ 1048576) (more : ByteArray) (sl : Value) (w : World) {ea eb : Addr} (hT : TabQ w ea eb) (hin : InT w (ndV t.p sl) t) :
    Calls Tryz.prog 13 #[ndV t.p sl, .string more] w fun e w' => e = .returned (.bool true) ∧ Below w.heap.size w w' := by
  have hbb := below_alloc w (.cells (ndL t.p sl).toArray 27)
  have hC := Cls.new w 27 (ndL t.p sl)
  have hsh := shown15_calls _ (hT.tab.below hbb)
  have hN := NF.of hwf hT.tab
  have hm1 := pre_le (x := more.size) 100
  have e1 := hid (min_toNat more.size 100)
  have hMs := cut_size more 100
  obtain ⟨M, hM⟩ : ∃ M, more.extract 0 (min more.size 100) = M := ⟨_, rfl⟩
  rw [hM] at hMs
  obtain ⟨l1, q1, n1, c1, f1, -, g1, rfl, -⟩ := InT.inv hin
  subst g1
  have HM := hid (And.intro hM hMs)
  have HT := hid hT
  have HX := hid (And.intro hbb (And.intro hC (And.intro hin (And.intro hwf hN))))
  clear hbb hC hin hwf hN hT hM hMs
  simp only [ndV, ndL] at hsh ⊢
  go_enter Tryz.func13, Tryz.ntmps13
  go_wp2_with fail
  refine hsh.mono ?_
  rintro e w1 ⟨rfl, hb1⟩
  obtain ⟨hbb, hC, hin, hwf, hN⟩ := HX.out
  have hC1 := hC.below hb1
  have hB1 := hbb.trans (hb1.mono hbb.size)
  have hfew := few_calls t hwf _ w1 (hin.up hB1)
  obtain ⟨y0, y1, y2, y3, y4, y5, y6, y7, y8⟩ := hC1.nine
  have HY := hid (And.intro hC1 (And.intro hB1 hN))
  clear hbb hC hin hwf hN hb1 hC1 hB1 HX hsh
  have hcn := Nat.le_trans (few_cnt_le t) hct
  obtain ⟨n, hn⟩ : ∃ n, fewT t = n := ⟨_, rfl⟩
  rw [hn] at hfew HY hcn
  clear hct
  clear hn
  simp only [ndV, ndL] at hfew
  go_wp2_with fail
  refine hfew.mono ?_
  rintro e w2 ⟨sl', rfl, hB2, hb2⟩
  obtain ⟨l9, q9, n9, c9, f9, -, rfl, -, -⟩ := InT.inv (p := n.p) hB2.toT
  obtain ⟨hC1, hB1, hN⟩ := HY.out
  have hC2 := hC1.below hb2
  obtain ⟨W, hW, hS⟩ : ∃ W, putN w2 w.heap.size 0 n.p (.slice q9 n9 c9) = W ∧ St w w.heap.size n (.slice q9 n9 c9) W := ⟨_, rfl, st_few hC1 hB1 (Nat.le_refl _) hB2 hb2⟩
  unfold putN at hW
  simp only [Nat.zero_add] at hW
  clear y0 y1 y2 y3 y4 y5 y6 y7 y8
  obtain ⟨u0, u1, u2, u3, u4, u5, u6, u7, u8⟩ := hC2.nine
  obtain ⟨v0, v1, v2, v3, v4, v5, v6, v7, v8⟩ := hC2.frozens
  obtain ⟨y0, y1, y2, y3, y4, y5, y6, y7, y8⟩ := hS.box.nine
  have HN := hid hN
  have HS := hid hS
  clear hB2 hb2 hC1 hB1 hN hC2 hS hfew HY
  have hc3 : n.cnt ≤ 300000000000 := by omega
  have hwn := fun Wx h1 h2 => write_calls n HN.out.fine HN.out.dep' hc3 (.slice q9 n9 c9) Wx (ea := ea) (eb := eb) h1 h2
  have hpl := fun c => back15_plain HN.out.fine hcn c M
  have hno := fun c => wrtS_no (t := n) c
  obtain ⟨P, hP⟩ : ∃ P, wrtS n = P := ⟨_, rfl⟩
  obtain ⟨C, hC⟩ : ∃ C, chk n 4 = C := ⟨_, rfl⟩
  rw [hP, hC] at hwn hpl hno
  have HK := hid (And.intro hwn (And.intro hpl hno))
  clear hwn hpl hno hP hC hcn hc3
  go_wp2_with fail
  clear hW u0 u1 u2 u3 u4 u5 u6 u7 u8 v0 v1 v2 v3 v4 v5 v6 v7 v8
  rw [show (min (more.size : Int) 100).toNat = min more.size 100 from e1.out, HM.out.1]
  refine (HK.out.1 _ (HN.out.tab.below HS.out.below) HS.out.inn).mono ?_
  rintro e w3 ⟨rfl, hb⟩
  have HS := hid (HS.out.up hb)
  clear hb y0 y1 y2 y3 y4 y5 y6 y7 y8
  by_cases hc : C = 0
  · subst hc
    obtain ⟨hP1, hP2, hP3, hP4⟩ := HK.out.2.1 rfl
    have hrd := read_calls P (by omega) w3 (HT.out.below HS.out.below)
    have hcat : ¬ 9223372036854775807 < P.size + M.size := by have := HM.out.2; omega
    have HP := hid (And.intro hP1 (And.intro hP2 hP3))
    clear hP1 hP2 hP3
    rcases hP4 with ⟨h4, hN81⟩ | ⟨h4, hN0⟩
    · have hlz : (4000 : Int) < P.size := by omega
      clear hcat h4
      go_wp2_with fail
      refine hrd.mono ?_
      clear hrd
      rintro e w4 ⟨hb4, ⟨t', a, k, c, h4, -⟩ | ⟨-, rfl⟩⟩
      case inl => omega
      rw [hN81]
      clear hN81
      have hbA := below_alloc w4 (.cells (ndL Pay.z (.slice none 0 0)).toArray 27)
      have HSa := (HS.out.up hb4).up hbA
      have hi := item_calls (P ++ M) (by have := HM.out.2; have := HP.out.1; rw [ByteArray.size_append]; omega) _ (HT.out.below HSa.below)
      have hcat : ¬ 9223372036854775807 < P.size + M.size := by have := HM.out.2; have := HP.out.1; omega
      have HA := hid HSa
      clear hb4 hbA HSa
      simp only [ndV, ndL, Pay.z] at hi ⊢
      go_wp2_with fail
      refine hi.mono ?_
      clear hi
      rintro e w5 ⟨hb5, ⟨t', q', b, m, d, hx', rfl, hB5⟩ | ⟨i, hx', rfl⟩⟩
      case inr => rw [HP.out.2.1] at hx'; cases hx'
      obtain ⟨rfl, hq'⟩ : n = t' ∧ tx M = tx q' := by
        rw [HP.out.2.1] at hx'
        injection hx' with h1 h2
        exact ⟨h1, h2⟩
      obtain rfl := tx_inj hq'
      have hbB := below_alloc w5 (.cells (ndL n.p (.slice b m d)).toArray 27)
      have HSb := (HA.out.up hb5).up hbB
      have hs1 := rsame_calls n HN.out.fine n (.slice b m d) (.slice q9 n9 c9) _ (hB5.toT.up hbB) HSb.inn
      rw [same_self] at hs1
      obtain ⟨y0, y1, y2, y3, y4, y5, y6, y7, y8⟩ := (HA.out.up hb5).box.nine
      have l2 := (HA.out.up hb5).box.lt
      have HB := hid HSb.below
      clear hb5 hx' hB5 hq' hbB HSb hcat HA
      simp only [ndV, ndL] at hs1 ⊢
      go_wp2_with fail
      refine hs1.mono ?_
      clear hs1
      rintro e w6 ⟨rfl, hb6⟩
      have HC := hid (HB.out.trans (hb6.mono HB.out.size))
      clear hb6 y0 y1 y2 y3 y4 y5 y6 y7 y8 l2
      go_wp2
      go_ret
      exact ⟨by first | rfl | simp, HC.out⟩
    · clear hcat
      go_wp2_with fail
      refine hrd.mono ?_
      clear hrd
      rintro e w4 ⟨hb4, ⟨t', a, k, c, -, hx', -, -, rfl, hB4⟩ | ⟨hne, -⟩⟩
      case inr => exact absurd hN0 hne
      obtain rfl : n = t' := by
        rw [HP.out.2.2] at hx'
        injection hx'
      have hbA := below_alloc w4 (.cells (ndL n.p (.slice a k c)).toArray 27)
      have hCa := Cls.new w4 27 (ndL n.p (.slice a k c))
      have HSa := (HS.out.up hb4).up hbA
      have hi := item_calls (P ++ M) (by have := HM.out.2; have := HP.out.1; rw [ByteArray.size_append]; omega) _ (HT.out.below HSa.below)
      have hcat : ¬ 9223372036854775807 < P.size + M.size := by have := HM.out.2; have := HP.out.1; omega
      have HA := hid (And.intro HSa (And.intro hCa (hB4.toT.up hbA)))
      clear hb4 hx' hB4 hbA hCa HSa h4 hN0
      simp only [ndV, ndL] at hi ⊢
      go_wp2_with fail
      refine hi.mono ?_
      clear hi
      rintro e w5 ⟨hb5, ⟨t', q', b, m, d, hx', rfl, hB5⟩ | ⟨i, hx', rfl⟩⟩
      case inr => rw [HP.out.2.1] at hx'; cases hx'
      obtain ⟨rfl, hq'⟩ : n = t' ∧ tx M = tx q' := by
        rw [HP.out.2.1] at hx'
        injection hx' with h1 h2
        exact ⟨h1, h2⟩
      obtain rfl := tx_inj hq'
      obtain ⟨HSa, hCa, hia⟩ := HA.out
      have hbB := below_alloc w5 (.cells (ndL n.p (.slice b m d)).toArray 27)
      have hCb := Cls.new w5 27 (ndL n.p (.slice b m d))
      have HSb := (HSa.up hb5).up hbB
      have hCa2 := hCa.below hb5
      have hib := hB5.toT.up hbB
      have hs1 := rsame_calls n HN.out.fine n (.slice a k c) (.slice q9 n9 c9) _ ((hia.up hb5).up hbB) HSb.inn
      rw [same_self] at hs1
      have hs2 := fun Wx h => rsame_calls n HN.out.fine n (.slice b m d) (.slice q9 n9 c9) Wx (hib.up h) (HSb.inn.up h)
      rw [same_self] at hs2
      obtain ⟨x0, x1, x2, x3, x4, x5, x6, x7, x8⟩ := hCa2.nine
      have l2 := hCa2.lt
      obtain ⟨y0, y1, y2, y3, y4, y5, y6, y7, y8⟩ := (HSa.up hb5).box.nine
      have l3 := (HSa.up hb5).box.lt
      have HB := hid (And.intro HSb (And.intro hCb hs2))
      clear hb5 hx' hB5 hq' HSa hCa hia hbB hCb HSb hCa2 hib hs2 hcat HA
      simp only [ndV, ndL] at hs1 ⊢
      go_wp2_with fail
      refine hs1.mono ?_
      clear hs1
      rintro e w6 ⟨rfl, hb6⟩
      obtain ⟨HSb, hCb, hs2⟩ := HB.out
      have hs3 := hs2 _ hb6
      clear x0 x1 x2 x3 x4 x5 x6 x7 x8 y0 y1 y2 y3 y4 y5 y6 y7 y8 l2 l3
      obtain ⟨x0, x1, x2, x3, x4, x5, x6, x7, x8⟩ := (hCb.below hb6).nine
      obtain ⟨y0, y1, y2, y3, y4, y5, y6, y7, y8⟩ := (HSb.up hb6).box.nine
      have HC := hid (HSb.up hb6).below
      clear hb6 HSb hCb hs2 HB
      simp only [ndV, ndL] at hs3
      go_wp2_with fail
      refine hs3.mono ?_
      clear hs3
      rintro e w7 ⟨rfl, hb7⟩
      have HD := hid (HC.out.trans (hb7.mono HC.out.size))
      clear hb7 x0 x1 x2 x3 x4 x5 x6 x7 x8 y0 y1 y2 y3 y4 y5 y6 y7 y8
      go_wp2
      go_ret
      exact ⟨by first | rfl | simp, HD.out⟩
  · have hP0 := HK.out.2.2 hc
    subst hP0
    have hz : (C != 0) = true := by rw [bne_iff_ne]; exact hc
    have hbe := HS.out.below
    clear hc
    go_wp2
    go_ret
    exact ⟨by first | rfl | simp, hbe⟩
end Go.Proofs.YtpjlepkdiaohiaaGreatDoor

namespace Go.Proofs.YtpjlepkdiaohiaaGreatDoor
open Go.ChangeShapes Go.WideShapes Go.ChangeAt Go.WideElems Go.RowKit Go.ChangeMaps

set_option maxRecDepth 100000 in
theorem mback_closed : joinedFacts Tryz.pinned.checked.prog 13 Tryz.f13 (Rows.OpenSpec.upto Rows.mpwBackSpec).bare Rows.mpwBackUptoRow = true := by kernel_rfl
end Go.Proofs.YtpjlepkdiaohiaaGreatDoor

