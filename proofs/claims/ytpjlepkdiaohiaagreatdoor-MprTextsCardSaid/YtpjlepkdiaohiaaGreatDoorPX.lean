/- PX: MqO. -/
import Derived.Test.YtpjlepkdiaohiaaGreatDoorPV
import Derived.Test.YtpjlepkdiaohiaaGreatDoorPJ
/- The statement MprFits: walked. -/
namespace Go.Proofs.YtpjlepkdiaohiaaGreatDoor
open Go.RowKit
attribute [local go_sem] Oper.semAt_some

theorem cut_size (s : ByteArray) (m : Nat) : (s.extract 0 (min s.size m)).size ≤ m := by
  rw [ByteArray.size_extract]
  omega
theorem rd_pos {s : ByteArray} {t : Tr} {r : List UInt8} (h : rd 16 (tx s) = .ok t r) : 0 < s.size := by
  rcases Nat.eq_zero_or_pos s.size with e | e
  · rw [tx_zero e] at h; cases h
  · exact e

set_option maxRecDepth 100000 in
set_option maxHeartbeats 4000000 in
theorem fits_law (s : ByteArray) (w : World) {ea eb : Addr} (hT : TabQ w ea eb) :
    Calls Tryz.prog 8 #[.string s] w fun e w' => e = .returned (.bool true) ∧ Below w.heap.size w w' := by
  have hsh := shown14_calls w hT
  have hm1 := pre_le (x := s.size) 4010
  have e1 := hid (min_toNat s.size 4010)
  have hPs := cut_size s 4010
  obtain ⟨P, hP⟩ : ∃ P, s.extract 0 (min s.size 4010) = P := ⟨_, rfl⟩
  rw [hP] at hPs
  have HP := hid (And.intro hP hPs)
  have hrd := fun W (h : Below w.heap.size w W) => read_calls P (Nat.le_trans hPs (by decide)) W (hT.below h)
  have hck := fun (t : Tr) (hx : rd 16 (tx P) = .ok t []) W (hW : Below w.heap.size w W) sl (hi : InT W (ndV t.p sl) t) => check_calls t (rd_fine 16 _ t _ (by rw [txs_len]; omega) hx).1 (by have := rd_dep_le hx; omega) 4 sl W (hT.below hW).tab hi
  have HR := hid (And.intro hrd hck)
  clear hP hPs hrd hck hT
  go_enter Tryz.func8, Tryz.ntmps8
  go_wp2_with fail
  refine hsh.mono ?_
  rintro e w1 ⟨rfl, hb1⟩
  have hrd := HR.out.1 _ hb1
  have HB := hid hb1
  clear hsh hb1
  go_wp2_with fail
  rw [show (min (s.size : Int) 4010).toNat = min s.size 4010 from e1.out, HP.out.1]
  refine hrd.mono ?_
  clear hrd
  rintro e w2 ⟨hb2, ⟨t, a, n, c, -, hx, hc, -, rfl, hB⟩ | ⟨hne, rfl⟩⟩
  · have hPp := rd_pos hx
    have hPz : (0 : Int) < P.size := by omega
    have hbw := HB.out.trans (hb2.mono HB.out.size)
    have hbA := below_alloc w2 (.cells (ndL t.p (.slice a n c)).toArray 27)
    have hbw2 := hbw.trans (hbA.mono hbw.size)
    have hcall := HR.out.2 t hx _ hbw2 (.slice a n c) (hB.toT.up hbA)
    rw [hc] at hcall
    have HC := hid hbw2
    clear hbw hbA hbw2 hb2 hB hx hc hPp
    simp only [ndV, ndL] at hcall ⊢
    go_wp2_with fail
    refine hcall.mono ?_
    rintro e w3 ⟨rfl, hb3⟩
    have HD := hid (HC.out.trans (hb3.mono HC.out.size))
    clear hcall hb3
    go_wp2
    go_ret
    exact ⟨by first | rfl | (simp; omega), HD.out⟩
  · obtain ⟨k, hk⟩ : ∃ k, rdN P = k := ⟨_, rfl⟩
    rw [hk] at hne ⊢
    have hkb : (k == 0) = false := by rw [beq_eq_false_iff_ne]; exact hne
    have hbw := HB.out.trans (hb2.mono HB.out.size)
    have hbA := below_alloc w2 (.cells (ndL Pay.z (.slice none 0 0)).toArray 27)
    have HC := hid (hbw.trans (hbA.mono hbw.size))
    clear hbw hbA hb2 hk
    simp only [ndV, ndL, Pay.z]
    go_wp2
    go_ret
    exact ⟨by first | rfl | simp, HC.out⟩
end Go.Proofs.YtpjlepkdiaohiaaGreatDoor

