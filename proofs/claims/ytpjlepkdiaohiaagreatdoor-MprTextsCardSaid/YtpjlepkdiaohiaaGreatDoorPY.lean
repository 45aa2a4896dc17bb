/- PY: MqP. -/
import Derived.Test.YtpjlepkdiaohiaaGreatDoorPX
/- The statement MprBehind: walked. -/
namespace Go.Proofs.YtpjlepkdiaohiaaGreatDoor
open Go.RowKit
attribute [local go_sem] Oper.semAt_some

theorem tx_cat (a b : ByteArray) : tx (a ++ b) = tx a ++ tx b := by
  unfold tx
  rw [ByteArray.data_append, Array.toList_append]
theorem cut_len {S : ByteArray} {k : Nat} (h : k ≤ S.size) : (S.extract 0 k).size = k := by
  rw [ByteArray.size_extract]
  omega
theorem tx_inj {a b : ByteArray} (h : tx a = tx b) : a = b := by rw [← B_tx a, h, B_tx]
/-- what is read, put before something else, and cut short. -/
theorem behind_plain {S M q : ByteArray} {t : Tr} (h : rd 16 (tx S) = .ok t (tx q)) :
    q.size < S.size ∧ rd 16 (tx (S ++ M)) = .ok t (tx (q ++ M)) ∧ ∀ k : Nat, k < S.size - q.size → rd 16 (tx ((S.extract 0 (S.size - q.size)).extract 0 k)) = .er 0 := by
  obtain ⟨o, ho, h1⟩ := (good_rd 16).sf _ _ _ h
  have hl := congrArg List.length ho
  rw [List.length_append, txs_len, txs_len] at hl
  rw [ho] at h
  refine ⟨by omega, ?_, fun k hk => ?_⟩
  · rw [tx_cat, tx_cat, ho, List.append_assoc]
    exact (good_rd 16).ex _ _ _ h _
  · rw [show tx ((S.extract 0 (S.size - q.size)).extract 0 k) = (tx (S.extract 0 (S.size - q.size))).take k from extract_take _ k, show tx (S.extract 0 (S.size - q.size)) = (tx S).take (S.size - q.size) from extract_take _ _, ho, show S.size - q.size = o.length by omega, List.take_left]
    exact (good_rd 16).pf _ _ _ h k (by omega)

set_option maxRecDepth 100000 in
set_option maxHeartbeats 8000000 in
theorem behind_law (s more : ByteArray) (pl : Int) (w : World) {ea eb : Addr} (hT : TabQ w ea eb) :
    Calls Tryz.prog 9 #[.string s, .string more, .int .i64 pl] w fun e w' => e = .returned (.bool true) ∧ Below w.heap.size w w' := by
  have hsh := shown14_calls w hT
  have hm1 := pre_le (x := s.size) 900
  have hm2 := pre_le (x := more.size) 900
  have e1 := hid (min_toNat s.size 900)
  have e2 := hid (min_toNat more.size 900)
  have hPs := cut_size s 900
  have hQs := cut_size more 900
  obtain ⟨S, hS⟩ : ∃ S, s.extract 0 (min s.size 900) = S := ⟨_, rfl⟩
  obtain ⟨M, hM⟩ : ∃ M, more.extract 0 (min more.size 900) = M := ⟨_, rfl⟩
  rw [hS] at hPs
  rw [hM] at hQs
  have hit := fun P (hp : P.size ≤ 1000000) W (h : Below w.heap.size w W) => item_calls P hp W (hT.below h)
  have HP := hid (And.intro hS (And.intro hM (And.intro hPs (And.intro hQs hit))))
  clear hS hM hPs hQs hit hT
  go_enter Tryz.func9, Tryz.ntmps9
  go_wp2_with fail
  refine hsh.mono ?_
  rintro e w1 ⟨rfl, hb1⟩
  have hi1 := HP.out.2.2.2.2 S (Nat.le_trans HP.out.2.2.1 (by decide)) _ hb1
  have HB := hid hb1
  clear hsh hb1
  go_wp2_with fail
  rw [show (min (s.size : Int) 900).toNat = min s.size 900 from e1.out, show (min (more.size : Int) 900).toNat = min more.size 900 from e2.out, HP.out.1, HP.out.2.1]
  refine hi1.mono ?_
  clear hi1
  rintro e w2 ⟨hb2, ⟨t, q, a, n, c, hx, rfl, hB⟩ | ⟨i, hx, rfl⟩⟩
  · obtain ⟨hql, hx2, hx3⟩ := behind_plain (M := M) hx
    have hfin := (rd_fine 16 _ t _ (by rw [txs_len]; have := HP.out.2.2.1; omega) hx).1
    have hbw := HB.out.trans (hb2.mono HB.out.size)
    have hbA := below_alloc w2 (.cells (ndL t.p (.slice a n c)).toArray 27)
    have hbw2 := hbw.trans (hbA.mono hbw.size)
    have hC2 := Cls.new w2 27 (ndL t.p (.slice a n c))
    have hi2 := HP.out.2.2.2.2 (S ++ M) (by rw [ByteArray.size_append]; have := HP.out.2.2.1; have := HP.out.2.2.2.1; omega) _ hbw2
    have hcat : ¬ 9223372036854775807 < S.size + M.size := by have := HP.out.2.2.1; have := HP.out.2.2.2.1; omega
    have HC := hid (And.intro hbw2 (And.intro (hB.toT.up hbA) (And.intro hC2 (And.intro hfin (And.intro hql (And.intro hx2 (And.intro hx3 hcat)))))))
    clear hbw hbA hbw2 hC2 hb2 hB hx hfin hql hx2 hx3
    simp only [ndV, ndL] at hi2 ⊢
    go_wp2_with fail
    refine hi2.mono ?_
    clear hi2
    obtain ⟨hbw2, hin, hC2, hfin, hql, hx2, hx3, -⟩ := HC.out
    rintro e w3 ⟨hb3, ⟨t', q', a', n', c', hx', rfl, hB'⟩ | ⟨i, hx', rfl⟩⟩
    case inr => rw [hx2] at hx'; cases hx'
    obtain ⟨rfl, hq'⟩ : t = t' ∧ tx (q ++ M) = tx q' := by
      rw [hx2] at hx'
      injection hx' with h1 h2
      exact ⟨h1, h2⟩
    obtain rfl := tx_inj hq'
    have hbA := below_alloc w3 (.cells (ndL t.p (.slice a' n' c')).toArray 27)
    have hC3 := hC2.below hb3
    have hbw3 := hbw2.trans (hb3.mono hbw2.size)
    have hbw4 := hbw3.trans (hbA.mono hbw3.size)
    have hsm := rsame_calls t hfin t (.slice a n c) (.slice a' n' c') _ ((hin.up hb3).up hbA) (hB'.toT.up hbA)
    rw [same_self] at hsm
    obtain ⟨x0, x1, x2, x3, x4, x5, x6, x7, x8⟩ := hC3.nine
    have l2 := hC3.lt
    have hPs := HP.out.2.2.1
    have hQs := HP.out.2.2.2.1
    have hcat2 : ¬ 9223372036854775807 < q.size + M.size := by omega
    have hlen : decide ((S.size : Int) ≤ q.size) = false := decide_eq_false (by omega)
    have hsub : wrap64 ((S.size : Int) - q.size) = ((S.size - q.size : Nat) : Int) := by unfold wrap64; omega
    have hO2 := cut_len (S := S) (k := S.size - q.size) (Nat.sub_le _ _)
    obtain ⟨O, hO⟩ : ∃ O, S.extract 0 (S.size - q.size) = O := ⟨_, rfl⟩
    rw [hO] at hO2 hx3
    have hs0 : (0 : Int) ≤ ((S.size - q.size : Nat) : Int) := Int.natCast_nonneg _
    have hs1 : ((S.size - q.size : Nat) : Int) ≤ (S.size : Int) := Int.ofNat_le.2 (Nat.sub_le _ _)
    have HD := hid (And.intro hbw4 (And.intro hx3 (And.intro hO2 hsub)))
    have HO := hid hO
    have HQL := hid (Nat.not_le_of_lt hql)
    clear hbw2 hin hC2 hfin hql hx2 hx3 hx' hB' hbA hC3 hbw3 hbw4 hb3 HC hq' hPs hQs hO2 hO hsub hs0 hs1
    simp only [ndV, ndL] at hsm ⊢
    go_wp2_with fail
    refine hsm.mono ?_
    clear hsm
    rintro e w5 ⟨rfl, hb5⟩
    obtain ⟨hbw4, hx3, hO2, hsub⟩ := HD.out
    have hbw5 := hbw4.trans (hb5.mono hbw4.size)
    have hs0 : (0 : Int) ≤ ((S.size - q.size : Nat) : Int) := Int.natCast_nonneg _
    have hs1 : ((S.size - q.size : Nat) : Int) ≤ (S.size : Int) := Int.ofNat_le.2 (Nat.sub_le _ _)
    have HE := hid (And.intro hbw5 hx3)
    clear hbw4 hb5 hbw5 hx3 x0 x1 x2 x3 x4 x5 x6 x7 x8
    have hOe := HO.out
    have hnle : ¬ S.size ≤ q.size := HQL.out
    by_cases hp : pl < 0
    · clear hO2
      go_wp2
      go_ret
      exact ⟨by first | rfl | simp, HE.out.1⟩
    · by_cases hp2 : (O.size : Int) ≤ pl
      · have hp0 : decide (pl < 0) = false := decide_eq_false hp
        clear hO2 hp
        go_wp2
        go_ret
        exact ⟨by first | rfl | simp, HE.out.1⟩
      · obtain ⟨k, rfl⟩ : ∃ k : Nat, pl = (k : Int) := ⟨pl.toNat, by omega⟩
        have hkO : k < O.size := by omega
        have hx4 := HE.out.2 k (by rw [← hO2]; exact hkO)
        have hRs : (O.extract 0 k).size ≤ 1000000 := by
          rw [cut_len (Nat.le_of_lt hkO), ]
          have := HP.out.2.2.1
          omega
        have hi3 := HP.out.2.2.2.2 (O.extract 0 k) hRs _ HE.out.1
        have hp0 : decide ((k : Int) < 0) = false := decide_eq_false hp
        have hp3 : decide ((O.size : Int) ≤ k) = false := decide_eq_false hp2
        have hp4 : ¬ O.size ≤ k := Nat.not_le_of_lt hkO
        have hk0 : (0 : Int) ≤ (k : Int) := Int.natCast_nonneg _
        have hk1 : (k : Int) ≤ (O.size : Int) := Int.ofNat_le.2 (Nat.le_of_lt hkO)
        have HX4 := hid hx4
        clear hO2 hp hp2 hkO hx4 hRs
        go_wp2_with fail
        refine hi3.mono ?_
        clear hi3
        rintro e w6 ⟨hb6, ⟨t', q', a', n', c', hx', rfl, hB'⟩ | ⟨i, hx', rfl⟩⟩
        case inl => rw [HX4.out] at hx'; cases hx'
        obtain rfl : i = 0 := by
          rw [HX4.out] at hx'
          injection hx' with h1
          exact h1.symm
        have HF := hid (HE.out.1.trans (hb6.mono HE.out.1.size))
        have hbZ := hid ((HF.out).trans ((below_alloc w6 (.cells (ndL Pay.z (.slice none 0 0)).toArray 27)).mono HF.out.size))
        clear hb6 hx'
        rw [show erN 0 = 100 from rfl]
        simp only [ndV, ndL, Pay.z]
        go_wp2
        go_ret
        exact ⟨by first | rfl | simp, hbZ.out⟩
  · obtain ⟨hk0, hk1⟩ := erN_ne i
    obtain ⟨k, hk⟩ : ∃ k, erN i = k := ⟨_, rfl⟩
    rw [hk] at hk0 hk1 ⊢
    have hbw := HB.out.trans (hb2.mono HB.out.size)
    have hbA := below_alloc w2 (.cells (ndL Pay.z (.slice none 0 0)).toArray 27)
    have HC := hid (hbw.trans (hbA.mono hbw.size))
    clear hbw hbA hb2 hk hx
    simp only [ndV, ndL, Pay.z]
    go_wp2
    go_ret
    exact ⟨by first | rfl | simp, HC.out⟩
end Go.Proofs.YtpjlepkdiaohiaaGreatDoor

