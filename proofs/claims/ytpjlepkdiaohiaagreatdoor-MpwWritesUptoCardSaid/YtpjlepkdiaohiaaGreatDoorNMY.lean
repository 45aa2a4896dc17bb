/- MY: RwA RwB RwC RwD RwE MwW. -/
import Derived.Test.YtpjlepkdiaohiaaGreatDoorNMO
import Derived.Test.YtpjlepkdiaohiaaGreatDoorNMS
import Derived.Test.YtpjlepkdiaohiaaGreatDoorNMK
import Derived.Test.YtpjlepkdiaohiaaGreatDoorNMN
import Derived.Test.YtpjlepkdiaohiaaGreatDoorNMX
import Derived.Test.YtpjlepkdiaohiaaGreatDoorNMF
/- The reference of layer 15: bytes, sized, minus: walked. -/
namespace Go.Proofs.YtpjlepkdiaohiaaGreatDoor
open Go.RowKit
attribute [local go_sem] Oper.semAt_some

/-- one byte's text. -/
def b1 (c : UInt8) : ByteArray := ⟨#[c]⟩
theorem tx_b1 (c : UInt8) (q : ByteArray) : tx (b1 c ++ q) = c :: tx q := by rw [tx_app]; rfl
theorem cv_one (c : UInt8) (z : Int) (hz : z = (c.toNat : Nat)) (W : World) : (convert 41 9 (.slice (some ⟨W.heap.size, 0, none⟩) 1 1)).run Tryz.prog (W.alloc (.cells #[.int .u8 z] 5)) = .ok (.string (b1 c)) (W.alloc (.cells #[.int .u8 z] 5)) := by
  have h := Cls.new W 5 [.int .u8 z]
  exact run_convert_bytes_back (P := Tryz.prog) (W.alloc (.cells #[.int .u8 z] 5)) 41 9 5 ⟨W.heap.size, 0, none⟩ 1 [c] Tryz.underlying41 Tryz.underlying5 Tryz.underlying9 (fun j hj => by
    obtain rfl : j = 0 := by simpa using hj
    rw [Lib.add_plain]
    subst hz
    exact h.cell 0 (v := .int .u8 (c.toNat : Nat)) rfl)

set_option maxRecDepth 100000 in
set_option maxHeartbeats 4000000 in
theorem rbytes_calls (f n k : Nat) (hf : f < 256) (hk : k ≤ 8) (_hn : n < 18446744073709551616) (w : World) :
    Calls Tryz.prog 45 #[.int .i64 f, .int .u64 n, .int .i64 k] w fun e w' => ∃ q, e = .returned (.string q) ∧ tx q = ch f :: beL k n ∧ Below w.heap.size w w' := by
  have hwf : IntKind.u8.wrap (f : Int) = (f : Int) := IntWalk.u8_in (f : Int) (by omega)
  have hcf := cv_one (ch f) (f : Int) (by rw [ch_toNat hf])
  go_enter Tryz.func45, Tryz.ntmps45
  go_wp2
  go_loopw [7, 8] (fun v7 v8 wr => ∃ (i : Nat) (q : ByteArray), v7 = .string q ∧ v8 = .int .i64 i ∧ i ≤ k ∧ tx q = beL i n ∧ Below w.heap.size w wr) (fun _ v8 _ => k - (intOf v8).toNat)
  case atStart => exact ⟨0, ⟨#[]⟩, rfl, rfl, Nat.zero_le _, rfl, Below.refl _ _⟩
  case round =>
    obtain ⟨i, q, rfl, rfl, hi, hq, hb⟩ := hrel
    have hqs : q.size = i := by
      have e := congrArg List.length hq
      rw [beL_len] at e
      exact (len_str q).symm.trans e
    have HB := hid (And.intro hq hb)
    clear hq hb
    by_cases hik : i < k
    · have hc := cv_one (ch (n / 256 ^ i)) ((n : Int) / 2 ^ (8 * i) % 256) (shr8 n i)
      have hii : (i : Int) < k := by omega
      have hbig : ¬ 9223372036854775807 < (b1 (ch (n / 256 ^ i))).size + q.size := by
        have : (b1 (ch (n / 256 ^ i))).size = 1 := rfl
        omega
      have HQ := hid hqs
      clear hqs
      have hd := decide_eq_true hik
      have hd' := decide_eq_true hii
      clear hcf hwf
      go_wp2
      go_roundw
      case rel => exact ⟨i + 1, _, rfl, by simp, by omega, by rw [tx_b1, HB.out.1]; rfl, HB.out.2.alloc HB.out.2.size _⟩
      case measure => simp [intOf]; omega
    · obtain rfl : i = k := by omega
      have hii : ¬ ((i : Int) < i) := by omega
      have hbig : ¬ 9223372036854775807 < (b1 (ch f)).size + q.size := by
        have : (b1 (ch f)).size = 1 := rfl
        omega
      clear hik hi hk hqs
      go_wp2
      go_ret
      exact ⟨_, rfl, by rw [tx_b1, HB.out.1], HB.out.2.alloc HB.out.2.size _⟩

set_option maxRecDepth 100000 in
set_option maxHeartbeats 4000000 in
theorem rsized_calls (n : Nat) (hn : n < 18446744073709551616) (a1 : Int) (a2 a4 a8 : Nat) (h1 : a1 < 256) (h2 : a2 < 256) (h4 : a4 < 256) (h8 : a8 < 256) (w : World) :
    Calls Tryz.prog 46 #[.int .u64 n, .int .i64 a1, .int .i64 a2, .int .i64 a4, .int .i64 a8] w fun e w' => ∃ q, e = .returned (.string q) ∧ tx q = sizedE n a1 a2 a4 a8 ∧ Below w.heap.size w w' := by
  have hc1 := fun (h : 0 ≤ a1) => rbytes_calls a1.toNat n 1 (by omega) (by decide) hn w
  have hc2 := rbytes_calls a2 n 2 h2 (by decide) hn w
  have hc4 := rbytes_calls a4 n 4 h4 (by decide) hn w
  have hc8 := rbytes_calls a8 n 8 h8 (by decide) hn w
  clear hn
  by_cases c1 : n < 256 ∧ 0 ≤ a1
  · have hr : sizedE n a1 a2 a4 a8 = ch a1.toNat :: beL 1 n := by unfold sizedE; rw [if_pos c1]
    have hc := hc1 c1.2
    rw [show ((a1.toNat : Nat) : Int) = a1 by omega] at hc
    have HR := hid hr
    have t1 : (n : Int) < 256 := by omega
    have t2 : (0 : Int) ≤ a1 := c1.2
    clear hc1 hc2 hc4 hc8 hr c1 h1 h2 h4 h8
    rw [HR.out]
    go_enter Tryz.func46, Tryz.ntmps46
    go_wp2_with fail
    refine hc.mono ?_
    rintro e w1 ⟨q, rfl, hq, hb⟩
    have HB := hid (And.intro hq hb)
    clear hc hq hb
    go_wp2
    go_ret
    exact ⟨q, rfl, HB.out.1, HB.out.2⟩
  have t1 : (256 : Int) ≤ (n : Int) ∨ ((n : Int) < 256 ∧ a1 < 0) := by omega
  by_cases c2 : n < 65536
  · have hr : sizedE n a1 a2 a4 a8 = ch a2 :: beL 2 n := by unfold sizedE; rw [if_neg c1, if_pos c2]
    have HR := hid hr
    have t2 : (n : Int) < 65536 := by omega
    rw [HR.out]
    clear hc1 hc4 hc8 hr c1 h1 h2 h4 h8 c2
    have t1 : decide ((n : Int) < 256) = false ∨ (decide ((n : Int) < 256) = true ∧ decide (0 ≤ a1) = false) := by
      rcases t1 with t1 | ⟨t1, t3⟩
      · exact .inl (decide_eq_false (by omega))
      · exact .inr ⟨decide_eq_true t1, decide_eq_false (by omega)⟩
    rcases t1 with t1 | ⟨t1, t3⟩
    all_goals (
      go_enter Tryz.func46, Tryz.ntmps46
      go_wp2_with fail
      refine hc2.mono ?_
      rintro e w1 ⟨q, rfl, hq, hb⟩
      have HB := hid (And.intro hq hb)
      clear hc2 hq hb
      go_wp2
      go_ret
      exact ⟨q, rfl, HB.out.1, HB.out.2⟩)
  have t1' : decide ((n : Int) < 256) = false := decide_eq_false (by omega)
  have t2 : decide ((n : Int) < 65536) = false := decide_eq_false (by omega)
  by_cases c4 : n < 4294967296
  · have hr : sizedE n a1 a2 a4 a8 = ch a4 :: beL 4 n := by unfold sizedE; rw [if_neg c1, if_neg c2, if_pos c4]
    have HR := hid hr
    have t4 : (n : Int) < 4294967296 := by omega
    rw [HR.out]
    clear hc1 hc2 hc8 hr c1 h1 h2 h4 h8 c2 t1 c4
    go_enter Tryz.func46, Tryz.ntmps46
    go_wp2_with fail
    refine hc4.mono ?_
    rintro e w1 ⟨q, rfl, hq, hb⟩
    have HB := hid (And.intro hq hb)
    clear hc4 hq hb
    go_wp2
    go_ret
    exact ⟨q, rfl, HB.out.1, HB.out.2⟩
  · have hr : sizedE n a1 a2 a4 a8 = ch a8 :: beL 8 n := by unfold sizedE; rw [if_neg c1, if_neg c2, if_neg c4]
    have HR := hid hr
    have t4 : decide ((n : Int) < 4294967296) = false := decide_eq_false (by omega)
    rw [HR.out]
    clear hc1 hc2 hc4 hr c1 h1 h2 h4 h8 c2 t1 c4
    go_enter Tryz.func46, Tryz.ntmps46
    go_wp2_with fail
    refine hc8.mono ?_
    rintro e w1 ⟨q, rfl, hq, hb⟩
    have HB := hid (And.intro hq hb)
    clear hc8 hq hb
    go_wp2
    go_ret
    exact ⟨q, rfl, HB.out.1, HB.out.2⟩

set_option maxRecDepth 100000 in
set_option maxHeartbeats 4000000 in
theorem rminus_calls (n : Nat) (h1 : 1 ≤ n) (hn : n ≤ 9223372036854775808) (w : World) :
    Calls Tryz.prog 44 #[.int .u64 n] w fun e w' => ∃ q, e = .returned (.string q) ∧ tx q = minusE n ∧ Below w.heap.size w w' := by
  have hu := u64_neg n h1 (by omega)
  have hm : negN n < 18446744073709551616 := by unfold negN; omega
  have hc0 := fun (h : n ≤ 32) => rbytes_calls (256 - n) 0 0 (by omega) (by decide) (by decide) w
  have hc1 := rbytes_calls 208 (negN n) 1 (by decide) (by decide) hm w
  have hc2 := rbytes_calls 209 (negN n) 2 (by decide) (by decide) hm w
  have hc4 := rbytes_calls 210 (negN n) 4 (by decide) (by decide) hm w
  have hc8 := rbytes_calls 211 (negN n) 8 (by decide) (by decide) hm w
  have hi64 : n ≤ 32 → IntKind.i64.wrap (n : Int) = (n : Int) := fun h => IntWalk.i64_in _ (by omega)
  clear hm
  by_cases c1 : n ≤ 32
  · have hr : minusE n = [ch (256 - n)] := by unfold minusE; rw [if_pos c1]
    have hc := hc0 c1
    have hi := hi64 c1
    obtain ⟨J, hJ⟩ : ∃ J, 256 - n = J := ⟨_, rfl⟩
    rw [hJ] at hc hr
    have hs : (256 : Int) - (n : Int) = (J : Int) := by omega
    have hw : IntKind.i64.wrap ((256 : Int) - (n : Int)) = (J : Int) := by rw [hs]; exact IntWalk.i64_in _ (by omega)
    have t1 : (n : Int) ≤ 32 := by omega
    rw [hr]
    clear hc0 hc1 hc2 hc4 hc8 hr c1 hi64 hJ hu hn
    go_enter Tryz.func44, Tryz.ntmps44
    go_wp2_with fail
    refine hc.mono ?_
    rintro e w1 ⟨q, rfl, hq, hb⟩
    have HB := hid (And.intro hq hb)
    clear hc hq hb
    go_wp2
    go_ret
    exact ⟨q, rfl, HB.out.1, HB.out.2⟩
  have t1 : (32 : Int) < (n : Int) := by omega
  by_cases c2 : n ≤ 128
  · have hr : minusE n = ch 208 :: beL 1 (negN n) := by unfold minusE; rw [if_neg c1, if_pos c2]
    have t2 : (n : Int) ≤ 128 := by omega
    rw [hr]
    clear hc0 hc2 hc4 hc8 hr c1 hi64 c2 hn h1
    go_enter Tryz.func44, Tryz.ntmps44
    go_wp2_with fail
    refine hc1.mono ?_
    rintro e w1 ⟨q, rfl, hq, hb⟩
    have HB := hid (And.intro hq hb)
    clear hc1 hq hb
    go_wp2
    go_ret
    exact ⟨q, rfl, HB.out.1, HB.out.2⟩
  have t2 : (128 : Int) < (n : Int) := by omega
  by_cases c3 : n ≤ 32768
  · have hr : minusE n = ch 209 :: beL 2 (negN n) := by unfold minusE; rw [if_neg c1, if_neg c2, if_pos c3]
    have t3 : (n : Int) ≤ 32768 := by omega
    rw [hr]
    clear hc0 hc1 hc4 hc8 hr c1 hi64 c2 c3 hn h1
    go_enter Tryz.func44, Tryz.ntmps44
    go_wp2_with fail
    refine hc2.mono ?_
    rintro e w1 ⟨q, rfl, hq, hb⟩
    have HB := hid (And.intro hq hb)
    clear hc2 hq hb
    go_wp2
    go_ret
    exact ⟨q, rfl, HB.out.1, HB.out.2⟩
  have t3 : (32768 : Int) < (n : Int) := by omega
  by_cases c4 : n ≤ 2147483648
  · have hr : minusE n = ch 210 :: beL 4 (negN n) := by unfold minusE; rw [if_neg c1, if_neg c2, if_neg c3, if_pos c4]
    have t4 : (n : Int) ≤ 2147483648 := by omega
    rw [hr]
    clear hc0 hc1 hc2 hc8 hr c1 hi64 c2 c3 c4 hn h1
    go_enter Tryz.func44, Tryz.ntmps44
    go_wp2_with fail
    refine hc4.mono ?_
    rintro e w1 ⟨q, rfl, hq, hb⟩
    have HB := hid (And.intro hq hb)
    clear hc4 hq hb
    go_wp2
    go_ret
    exact ⟨q, rfl, HB.out.1, HB.out.2⟩
  · have hr : minusE n = ch 211 :: beL 8 (negN n) := by unfold minusE; rw [if_neg c1, if_neg c2, if_neg c3, if_neg c4]
    have t4 : (2147483648 : Int) < (n : Int) := by omega
    rw [hr]
    clear hc0 hc1 hc2 hc4 hr c1 hi64 c2 c3 c4 hn h1
    go_enter Tryz.func44, Tryz.ntmps44
    go_wp2_with fail
    refine hc8.mono ?_
    rintro e w1 ⟨q, rfl, hq, hb⟩
    have HB := hid (And.intro hq hb)
    clear hc8 hq hb
    go_wp2
    go_ret
    exact ⟨q, rfl, HB.out.1, HB.out.2⟩
end Go.Proofs.YtpjlepkdiaohiaaGreatDoor

/- The reference of layer 15: ext: walked. -/
namespace Go.Proofs.YtpjlepkdiaohiaaGreatDoor
open Go.RowKit
attribute [local go_sem] Oper.semAt_some

theorem size_b1 (c : UInt8) : (b1 c).size = 1 := rfl

set_option maxRecDepth 100000 in
set_option maxHeartbeats 4000000 in
theorem rext_calls (p : Pay) (hs : p.s.size ≤ 400) (hu : p.u ≤ 255) (sl : Value) (w : World) :
    Calls Tryz.prog 47 #[ndV p sl] w fun e w' => ∃ q, e = .returned (.string q) ∧ tx q = extE p.s.size ++ (ch p.u :: tx p.s) ∧ Below w.heap.size w w' := by
  have hbx := Cls.new w 27 (ndL p sl)
  have hbb := below_alloc w (.cells (ndL p sl).toArray 27)
  have hw8 : IntKind.u8.wrap (p.u : Int) = (p.u : Int) := IntWalk.u8_in _ (by omega)
  have hwu : IntKind.u64.wrap (p.s.size : Int) = (p.s.size : Int) := IntWalk.u64_in _ (by omega)
  have hsz := fun W => rsized_calls p.s.size (by omega) 199 200 201 0 (by decide) (by decide) (by decide) (by decide) W
  have hb0 : ¬ 9223372036854775807 < (b1 (ch p.u)).size + p.s.size := by rw [size_b1]; omega
  obtain ⟨W0, hW0⟩ : ∃ W0, w.alloc (.cells (ndL p sl).toArray 27) = W0 := ⟨_, rfl⟩
  rw [hW0] at hbx hbb
  have hcv := cv_one (ch p.u) (p.u : Int) (by rw [ch_toNat (by omega)]) W0
  have hbx1 := hbx.alloc (.cells #[.int .u8 (p.u : Int)] 5)
  have hbb1 := hbb.alloc hbb.size (.cells #[.int .u8 (p.u : Int)] 5)
  obtain ⟨W1, hW1⟩ : ∃ W1, W0.alloc (.cells #[.int .u8 (p.u : Int)] 5) = W1 := ⟨_, rfl⟩
  rw [hW1] at hcv hbx1 hbb1
  obtain ⟨y0, y1, y2, y3, y4, y5, y6, y7, y8⟩ := hbx.nine
  obtain ⟨z0, z1, z2, z3, z4, z5, z6, z7, z8⟩ := hbx1.nine
  have HX := hid (And.intro hbb1 hs)
  clear hbb hbx hbx1 hbb1 hu y0 y1 y2 y3 y4 y6 y7 y8 z0 z1 z2 z3 z4 z5 z6 z8
  simp only [ndL] at hW0
  simp only [ndV, ndL]
  by_cases h1 : p.s.size = 1
  · have hr : extE p.s.size = [212] := by unfold extE; rw [if_pos h1]
    have HR := hid hr
    rw [HR.out]
    have hb1 : ¬ 9223372036854775807 < 1 + ((b1 (ch p.u)).size + 1) := by rw [size_b1]; decide
    clear hr hsz hwu hs
    go_enter Tryz.func47, Tryz.ntmps47
    go_wp2
    go_ret
    exact ⟨_, rfl, by rw [tx_app, tx_b1]; rfl, HX.out.1⟩
  by_cases h2 : p.s.size = 2
  · have hr : extE p.s.size = [213] := by unfold extE; rw [if_neg h1, if_pos h2]
    have HR := hid hr
    rw [HR.out]
    have hb1 : ¬ 9223372036854775807 < 1 + ((b1 (ch p.u)).size + 2) := by rw [size_b1]; decide
    clear hr hsz hwu hs
    go_enter Tryz.func47, Tryz.ntmps47
    go_wp2
    go_ret
    exact ⟨_, rfl, by rw [tx_app, tx_b1]; rfl, HX.out.1⟩
  by_cases h4 : p.s.size = 4
  · have hr : extE p.s.size = [214] := by unfold extE; rw [if_neg h1, if_neg h2, if_pos h4]
    have HR := hid hr
    rw [HR.out]
    have hb1 : ¬ 9223372036854775807 < 1 + ((b1 (ch p.u)).size + 4) := by rw [size_b1]; decide
    clear hr hsz hwu hs
    go_enter Tryz.func47, Tryz.ntmps47
    go_wp2
    go_ret
    exact ⟨_, rfl, by rw [tx_app, tx_b1]; rfl, HX.out.1⟩
  by_cases h8 : p.s.size = 8
  · have hr : extE p.s.size = [215] := by unfold extE; rw [if_neg h1, if_neg h2, if_neg h4, if_pos h8]
    have HR := hid hr
    rw [HR.out]
    have hb1 : ¬ 9223372036854775807 < 1 + ((b1 (ch p.u)).size + 8) := by rw [size_b1]; decide
    clear hr hsz hwu hs
    go_enter Tryz.func47, Tryz.ntmps47
    go_wp2
    go_ret
    exact ⟨_, rfl, by rw [tx_app, tx_b1]; rfl, HX.out.1⟩
  by_cases h16 : p.s.size = 16
  · have hr : extE p.s.size = [216] := by unfold extE; rw [if_neg h1, if_neg h2, if_neg h4, if_neg h8, if_pos h16]
    have HR := hid hr
    rw [HR.out]
    have hb1 : ¬ 9223372036854775807 < 1 + ((b1 (ch p.u)).size + 16) := by rw [size_b1]; decide
    clear hr hsz hwu hs
    go_enter Tryz.func47, Tryz.ntmps47
    go_wp2
    go_ret
    exact ⟨_, rfl, by rw [tx_app, tx_b1]; rfl, HX.out.1⟩
  have hr : extE p.s.size = sizedE p.s.size 199 200 201 0 := by unfold extE; rw [if_neg h1, if_neg h2, if_neg h4, if_neg h8, if_neg h16]
  have HR := hid hr
  have hq1 : ((p.s.size : Int) == 1) = false := by rw [beq_eq_false_iff_ne]; omega
  have hq2 : ((p.s.size : Int) == 2) = false := by rw [beq_eq_false_iff_ne]; omega
  have hq4 : ((p.s.size : Int) == 4) = false := by rw [beq_eq_false_iff_ne]; omega
  have hq8 : ((p.s.size : Int) == 8) = false := by rw [beq_eq_false_iff_ne]; omega
  have hq16 : ((p.s.size : Int) == 16) = false := by rw [beq_eq_false_iff_ne]; omega
  rw [HR.out]
  clear hr hs h1 h2 h4 h8 h16
  go_enter Tryz.func47, Tryz.ntmps47
  go_wp2_with fail
  refine (hsz _).mono ?_
  rintro e w2 ⟨q, rfl, hq, hb⟩
  have hqs : q.size ≤ 9 := by
    have e := congrArg List.length hq
    have := (sizedE_len p.s.size 199 200 201 0).2
    have := len_str q
    unfold tx at e
    omega
  have hb1 : ¬ 9223372036854775807 < q.size + ((b1 (ch p.u)).size + p.s.size) := by rw [size_b1]; have := HX.out.2; omega
  have HB := hid (And.intro hq hb)
  clear hsz hq hb hqs hq1 hq2 hq4 hq8 hq16
  go_wp2
  go_ret
  exact ⟨_, rfl, by rw [tx_app, tx_b1, HB.out.1], HX.out.1.trans (HB.out.2.mono HX.out.1.size)⟩
end Go.Proofs.YtpjlepkdiaohiaaGreatDoor

/- The reference of layer 15: write at trees without a list: walked. -/
namespace Go.Proofs.YtpjlepkdiaohiaaGreatDoor
open Go.RowKit
attribute [local go_sem] Oper.semAt_some

def RLeaf (p : Pay) (hd : List UInt8) : Prop := ∀ (a : Option Addr) (c : Nat) (w : World), Calls Tryz.prog 33 #[ndV p (.slice a 0 c)] w fun e w' => ∃ q, e = .returned (.string q) ∧ tx q = hd ∧ Below w.heap.size w w'
theorem below_nextW {w W W' : World} (h : Below w.heap.size w W) (hb : Below W.heap.size W W') : Below w.heap.size w W' := h.trans (hb.mono h.size)
theorem tx_size {q : ByteArray} {l : List UInt8} (h : tx q = l) : q.size = l.length := by rw [← h]; exact (len_str q).symm
set_option maxRecDepth 100000 in
set_option maxHeartbeats 4000000 in
theorem rw_1 (b n : Bool) (dg : ByteArray) (ex : Int) (u : Nat) (wd : Int) (s : ByteArray) : RLeaf ⟨1, b, n, dg, ex, u, wd, s⟩ [192] := by
  intro a c w
  have hbx := Cls.new w 27 (ndL ⟨1, b, n, dg, ex, u, wd, s⟩ (.slice a 0 c))
  have hbb := below_alloc w (.cells (ndL ⟨1, b, n, dg, ex, u, wd, s⟩ (.slice a 0 c)).toArray 27)
  obtain ⟨W0, hW0⟩ : ∃ W0, w.alloc (.cells (ndL ⟨1, b, n, dg, ex, u, wd, s⟩ (.slice a 0 c)).toArray 27) = W0 := ⟨_, rfl⟩
  rw [hW0] at hbx hbb
  obtain ⟨y0, y1, y2, y3, y4, y5, y6, y7, y8⟩ := hbx.nine
  have HX := hid (And.intro hbb hbx)
  clear hbb hbx
  simp only [ndL] at hW0 y0 y1 y2 y3 y4 y5 y6 y7 y8
  simp only [ndV, ndL]
  go_enter Tryz.func33, Tryz.ntmps33
  go_wp2
  clear hW0
  go_loopw [3, 4] (fun v3 v4 wr => v3 = .string ⟨#[]⟩ ∧ v4 = .int .i64 (0 : Int) ∧ wr = W0) (fun _ _ _ => 0)
  case atStart => exact ⟨rfl, rfl, rfl⟩
  case round =>
    obtain ⟨rfl, rfl, rfl⟩ := hrel
    go_wp2
    go_ret
    exact ⟨_, rfl, rfl, HX.out.1⟩
set_option maxRecDepth 100000 in
set_option maxHeartbeats 4000000 in
theorem rw_2t (n : Bool) (dg : ByteArray) (ex : Int) (u : Nat) (wd : Int) (s : ByteArray) : RLeaf ⟨2, true, n, dg, ex, u, wd, s⟩ [195] := by
  intro a c w
  have hbx := Cls.new w 27 (ndL ⟨2, true, n, dg, ex, u, wd, s⟩ (.slice a 0 c))
  have hbb := below_alloc w (.cells (ndL ⟨2, true, n, dg, ex, u, wd, s⟩ (.slice a 0 c)).toArray 27)
  obtain ⟨W0, hW0⟩ : ∃ W0, w.alloc (.cells (ndL ⟨2, true, n, dg, ex, u, wd, s⟩ (.slice a 0 c)).toArray 27) = W0 := ⟨_, rfl⟩
  rw [hW0] at hbx hbb
  obtain ⟨y0, y1, y2, y3, y4, y5, y6, y7, y8⟩ := hbx.nine
  have HX := hid (And.intro hbb hbx)
  clear hbb hbx
  simp only [ndL] at hW0 y0 y1 y2 y3 y4 y5 y6 y7 y8
  simp only [ndV, ndL]
  go_enter Tryz.func33, Tryz.ntmps33
  go_wp2
  clear hW0
  go_loopw [3, 4] (fun v3 v4 wr => v3 = .string ⟨#[]⟩ ∧ v4 = .int .i64 (0 : Int) ∧ wr = W0) (fun _ _ _ => 0)
  case atStart => exact ⟨rfl, rfl, rfl⟩
  case round =>
    obtain ⟨rfl, rfl, rfl⟩ := hrel
    go_wp2
    go_ret
    exact ⟨_, rfl, rfl, HX.out.1⟩
set_option maxRecDepth 100000 in
set_option maxHeartbeats 4000000 in
theorem rw_2f (n : Bool) (dg : ByteArray) (ex : Int) (u : Nat) (wd : Int) (s : ByteArray) : RLeaf ⟨2, false, n, dg, ex, u, wd, s⟩ [194] := by
  intro a c w
  have hbx := Cls.new w 27 (ndL ⟨2, false, n, dg, ex, u, wd, s⟩ (.slice a 0 c))
  have hbb := below_alloc w (.cells (ndL ⟨2, false, n, dg, ex, u, wd, s⟩ (.slice a 0 c)).toArray 27)
  obtain ⟨W0, hW0⟩ : ∃ W0, w.alloc (.cells (ndL ⟨2, false, n, dg, ex, u, wd, s⟩ (.slice a 0 c)).toArray 27) = W0 := ⟨_, rfl⟩
  rw [hW0] at hbx hbb
  obtain ⟨y0, y1, y2, y3, y4, y5, y6, y7, y8⟩ := hbx.nine
  have HX := hid (And.intro hbb hbx)
  clear hbb hbx
  simp only [ndL] at hW0 y0 y1 y2 y3 y4 y5 y6 y7 y8
  simp only [ndV, ndL]
  go_enter Tryz.func33, Tryz.ntmps33
  go_wp2
  clear hW0
  go_loopw [3, 4] (fun v3 v4 wr => v3 = .string ⟨#[]⟩ ∧ v4 = .int .i64 (0 : Int) ∧ wr = W0) (fun _ _ _ => 0)
  case atStart => exact ⟨rfl, rfl, rfl⟩
  case round =>
    obtain ⟨rfl, rfl, rfl⟩ := hrel
    go_wp2
    go_ret
    exact ⟨_, rfl, rfl, HX.out.1⟩
set_option maxRecDepth 100000 in
set_option maxHeartbeats 4000000 in
theorem rw_3t (b : Bool) (dg : ByteArray) (ex : Int) (u : Nat) (wd : Int) (s : ByteArray) (N : Nat) (h1 : 1 ≤ N) (hN : N ≤ 9223372036854775808) (hti : ∀ W, Calls Tryz.prog 43 #[.agg #[.bool true, .string dg, .int .i64 ex]] W fun e w' => e = .returned (.tuple #[.bool true, .int .u64 N, .bool true]) ∧ Below W.heap.size W w') : RLeaf ⟨3, b, true, dg, ex, u, wd, s⟩ (minusE N) := by
  intro a c w
  have hbx := Cls.new w 27 (ndL ⟨3, b, true, dg, ex, u, wd, s⟩ (.slice a 0 c))
  have hbb := below_alloc w (.cells (ndL ⟨3, b, true, dg, ex, u, wd, s⟩ (.slice a 0 c)).toArray 27)
  obtain ⟨W0, hW0⟩ : ∃ W0, w.alloc (.cells (ndL ⟨3, b, true, dg, ex, u, wd, s⟩ (.slice a 0 c)).toArray 27) = W0 := ⟨_, rfl⟩
  rw [hW0] at hbx hbb
  obtain ⟨y0, y1, y2, y3, y4, y5, y6, y7, y8⟩ := hbx.nine
  have HX := hid (And.intro hbb hbx)
  clear hbb hbx
  simp only [ndL] at hW0 y0 y1 y2 y3 y4 y5 y6 y7 y8
  simp only [ndV, ndL]
  have hmi := fun W => rminus_calls N h1 hN W
  clear h1 hN
  go_enter Tryz.func33, Tryz.ntmps33
  go_wp2
  clear hW0
  go_loopw [3, 4] (fun v3 v4 wr => v3 = .string ⟨#[]⟩ ∧ v4 = .int .i64 (0 : Int) ∧ wr = W0) (fun _ _ _ => 0)
  case atStart => exact ⟨rfl, rfl, rfl⟩
  case round =>
    obtain ⟨rfl, rfl, rfl⟩ := hrel
    go_wp2_with fail
    refine (hti _).mono ?_
    rintro e w1 ⟨rfl, hb1⟩
    have HY := hid (HX.out.1.trans (hb1.mono HX.out.1.size))
    clear hti hb1
    go_wp2_with fail
    refine (hmi _).mono ?_
    rintro e w2 ⟨q, rfl, hq, hb2⟩
    have HB := hid (And.intro hq (HY.out.trans (hb2.mono HY.out.size)))
    clear hmi hq hb2
    go_wp2
    go_ret
    exact ⟨q, rfl, HB.out.1, HB.out.2⟩
set_option maxRecDepth 100000 in
set_option maxHeartbeats 4000000 in
theorem rw_3s (b : Bool) (dg : ByteArray) (ex : Int) (u : Nat) (wd : Int) (s : ByteArray) (N : Nat) (hlt : N < 128) (_h64 : N < 18446744073709551616) (hti : ∀ W, Calls Tryz.prog 43 #[.agg #[.bool false, .string dg, .int .i64 ex]] W fun e w' => e = .returned (.tuple #[.bool false, .int .u64 N, .bool true]) ∧ Below W.heap.size W w') : RLeaf ⟨3, b, false, dg, ex, u, wd, s⟩ ([ch N]) := by
  intro a c w
  have hbx := Cls.new w 27 (ndL ⟨3, b, false, dg, ex, u, wd, s⟩ (.slice a 0 c))
  have hbb := below_alloc w (.cells (ndL ⟨3, b, false, dg, ex, u, wd, s⟩ (.slice a 0 c)).toArray 27)
  obtain ⟨W0, hW0⟩ : ∃ W0, w.alloc (.cells (ndL ⟨3, b, false, dg, ex, u, wd, s⟩ (.slice a 0 c)).toArray 27) = W0 := ⟨_, rfl⟩
  rw [hW0] at hbx hbb
  obtain ⟨y0, y1, y2, y3, y4, y5, y6, y7, y8⟩ := hbx.nine
  have HX := hid (And.intro hbb hbx)
  clear hbb hbx
  simp only [ndL] at hW0 y0 y1 y2 y3 y4 y5 y6 y7 y8
  simp only [ndV, ndL]
  have hca := fun W => rbytes_calls N 0 0 (by omega) (by decide) (by decide) W
  have hd : ((N : Int) < 128) := by omega
  have hwi : IntKind.i64.wrap (N : Int) = (N : Int) := IntWalk.i64_in _ (by omega)
  clear _h64 hlt
  go_enter Tryz.func33, Tryz.ntmps33
  go_wp2
  clear hW0
  go_loopw [3, 4] (fun v3 v4 wr => v3 = .string ⟨#[]⟩ ∧ v4 = .int .i64 (0 : Int) ∧ wr = W0) (fun _ _ _ => 0)
  case atStart => exact ⟨rfl, rfl, rfl⟩
  case round =>
    obtain ⟨rfl, rfl, rfl⟩ := hrel
    go_wp2_with fail
    refine (hti _).mono ?_
    rintro e w1 ⟨rfl, hb1⟩
    have HY := hid (HX.out.1.trans (hb1.mono HX.out.1.size))
    clear hti hb1
    go_wp2_with fail
    refine (hca _).mono ?_
    rintro e w2 ⟨q, rfl, hq, hb2⟩
    have HB := hid (And.intro hq (HY.out.trans (hb2.mono HY.out.size)))
    clear hca hq hb2
    go_wp2
    go_ret
    exact ⟨q, rfl, HB.out.1, HB.out.2⟩
set_option maxRecDepth 100000 in
set_option maxHeartbeats 4000000 in
theorem rw_3g (b : Bool) (dg : ByteArray) (ex : Int) (u : Nat) (wd : Int) (s : ByteArray) (N : Nat) (hlt : 128 ≤ N) (h64 : N < 18446744073709551616) (hti : ∀ W, Calls Tryz.prog 43 #[.agg #[.bool false, .string dg, .int .i64 ex]] W fun e w' => e = .returned (.tuple #[.bool false, .int .u64 N, .bool true]) ∧ Below W.heap.size W w') : RLeaf ⟨3, b, false, dg, ex, u, wd, s⟩ (sizedE N 204 205 206 207) := by
  intro a c w
  have hbx := Cls.new w 27 (ndL ⟨3, b, false, dg, ex, u, wd, s⟩ (.slice a 0 c))
  have hbb := below_alloc w (.cells (ndL ⟨3, b, false, dg, ex, u, wd, s⟩ (.slice a 0 c)).toArray 27)
  obtain ⟨W0, hW0⟩ : ∃ W0, w.alloc (.cells (ndL ⟨3, b, false, dg, ex, u, wd, s⟩ (.slice a 0 c)).toArray 27) = W0 := ⟨_, rfl⟩
  rw [hW0] at hbx hbb
  obtain ⟨y0, y1, y2, y3, y4, y5, y6, y7, y8⟩ := hbx.nine
  have HX := hid (And.intro hbb hbx)
  clear hbb hbx
  simp only [ndL] at hW0 y0 y1 y2 y3 y4 y5 y6 y7 y8
  simp only [ndV, ndL]
  have hca := fun W => rsized_calls N h64 204 205 206 207 (by decide) (by decide) (by decide) (by decide) W
  have hd : decide ((N : Int) < 128) = false := decide_eq_false (by omega)
  clear h64 hlt
  go_enter Tryz.func33, Tryz.ntmps33
  go_wp2
  clear hW0
  go_loopw [3, 4] (fun v3 v4 wr => v3 = .string ⟨#[]⟩ ∧ v4 = .int .i64 (0 : Int) ∧ wr = W0) (fun _ _ _ => 0)
  case atStart => exact ⟨rfl, rfl, rfl⟩
  case round =>
    obtain ⟨rfl, rfl, rfl⟩ := hrel
    go_wp2_with fail
    refine (hti _).mono ?_
    rintro e w1 ⟨rfl, hb1⟩
    have HY := hid (HX.out.1.trans (hb1.mono HX.out.1.size))
    clear hti hb1
    go_wp2_with fail
    refine (hca _).mono ?_
    rintro e w2 ⟨q, rfl, hq, hb2⟩
    have HB := hid (And.intro hq (HY.out.trans (hb2.mono HY.out.size)))
    clear hca hq hb2
    go_wp2
    go_ret
    exact ⟨q, rfl, HB.out.1, HB.out.2⟩
set_option maxRecDepth 100000 in
set_option maxHeartbeats 4000000 in
theorem rw_4a (b n : Bool) (dg : ByteArray) (ex : Int) (u : Nat) (s : ByteArray) (hu : u < 18446744073709551616) : RLeaf ⟨4, b, n, dg, ex, u, 32, s⟩ (ch 202 :: beL 4 u) := by
  intro a c w
  have hbx := Cls.new w 27 (ndL ⟨4, b, n, dg, ex, u, 32, s⟩ (.slice a 0 c))
  have hbb := below_alloc w (.cells (ndL ⟨4, b, n, dg, ex, u, 32, s⟩ (.slice a 0 c)).toArray 27)
  obtain ⟨W0, hW0⟩ : ∃ W0, w.alloc (.cells (ndL ⟨4, b, n, dg, ex, u, 32, s⟩ (.slice a 0 c)).toArray 27) = W0 := ⟨_, rfl⟩
  rw [hW0] at hbx hbb
  obtain ⟨y0, y1, y2, y3, y4, y5, y6, y7, y8⟩ := hbx.nine
  have HX := hid (And.intro hbb hbx)
  clear hbb hbx
  simp only [ndL] at hW0 y0 y1 y2 y3 y4 y5 y6 y7 y8
  simp only [ndV, ndL]
  have hca := fun W => rbytes_calls 202 u 4 (by decide) (by decide) hu W
  clear hu
  go_enter Tryz.func33, Tryz.ntmps33
  go_wp2
  clear hW0
  go_loopw [3, 4] (fun v3 v4 wr => v3 = .string ⟨#[]⟩ ∧ v4 = .int .i64 (0 : Int) ∧ wr = W0) (fun _ _ _ => 0)
  case atStart => exact ⟨rfl, rfl, rfl⟩
  case round =>
    obtain ⟨rfl, rfl, rfl⟩ := hrel
    go_wp2_with fail
    refine (hca _).mono ?_
    rintro e w2 ⟨q, rfl, hq, hb2⟩
    have HB := hid (And.intro hq (HX.out.1.trans (hb2.mono HX.out.1.size)))
    clear hca hq hb2
    go_wp2
    go_ret
    exact ⟨q, rfl, HB.out.1, HB.out.2⟩
set_option maxRecDepth 100000 in
set_option maxHeartbeats 4000000 in
theorem rw_4b (b n : Bool) (dg : ByteArray) (ex : Int) (u : Nat) (wd : Int) (s : ByteArray) (hw : wd ≠ 32) (hu : u < 18446744073709551616) : RLeaf ⟨4, b, n, dg, ex, u, wd, s⟩ (ch 203 :: beL 8 u) := by
  intro a c w
  have hbx := Cls.new w 27 (ndL ⟨4, b, n, dg, ex, u, wd, s⟩ (.slice a 0 c))
  have hbb := below_alloc w (.cells (ndL ⟨4, b, n, dg, ex, u, wd, s⟩ (.slice a 0 c)).toArray 27)
  obtain ⟨W0, hW0⟩ : ∃ W0, w.alloc (.cells (ndL ⟨4, b, n, dg, ex, u, wd, s⟩ (.slice a 0 c)).toArray 27) = W0 := ⟨_, rfl⟩
  rw [hW0] at hbx hbb
  obtain ⟨y0, y1, y2, y3, y4, y5, y6, y7, y8⟩ := hbx.nine
  have HX := hid (And.intro hbb hbx)
  clear hbb hbx
  simp only [ndL] at hW0 y0 y1 y2 y3 y4 y5 y6 y7 y8
  simp only [ndV, ndL]
  have hca := fun W => rbytes_calls 203 u 8 (by decide) (by decide) hu W
  have hwd : (wd == 32) = false := by rw [beq_eq_false_iff_ne]; exact hw
  clear hu hw
  go_enter Tryz.func33, Tryz.ntmps33
  go_wp2
  clear hW0
  go_loopw [3, 4] (fun v3 v4 wr => v3 = .string ⟨#[]⟩ ∧ v4 = .int .i64 (0 : Int) ∧ wr = W0) (fun _ _ _ => 0)
  case atStart => exact ⟨rfl, rfl, rfl⟩
  case round =>
    obtain ⟨rfl, rfl, rfl⟩ := hrel
    go_wp2_with fail
    refine (hca _).mono ?_
    rintro e w2 ⟨q, rfl, hq, hb2⟩
    have HB := hid (And.intro hq (HX.out.1.trans (hb2.mono HX.out.1.size)))
    clear hca hq hb2
    go_wp2
    go_ret
    exact ⟨q, rfl, HB.out.1, HB.out.2⟩
set_option maxRecDepth 100000 in
set_option maxHeartbeats 4000000 in
theorem rw_5a (b n : Bool) (dg : ByteArray) (ex : Int) (u : Nat) (wd : Int) (s : ByteArray) (hs : s.size ≤ 400) (hlt : s.size < 32) : RLeaf ⟨5, b, n, dg, ex, u, wd, s⟩ ([ch (160 + s.size)] ++ tx s) := by
  intro a c w
  have hbx := Cls.new w 27 (ndL ⟨5, b, n, dg, ex, u, wd, s⟩ (.slice a 0 c))
  have hbb := below_alloc w (.cells (ndL ⟨5, b, n, dg, ex, u, wd, s⟩ (.slice a 0 c)).toArray 27)
  obtain ⟨W0, hW0⟩ : ∃ W0, w.alloc (.cells (ndL ⟨5, b, n, dg, ex, u, wd, s⟩ (.slice a 0 c)).toArray 27) = W0 := ⟨_, rfl⟩
  rw [hW0] at hbx hbb
  obtain ⟨y0, y1, y2, y3, y4, y5, y6, y7, y8⟩ := hbx.nine
  have HX := hid (And.intro hbb hbx)
  clear hbb hbx
  simp only [ndL] at hW0 y0 y1 y2 y3 y4 y5 y6 y7 y8
  simp only [ndV, ndL]
  have hca := fun W => rbytes_calls (160 + s.size) 0 0 (by omega) (by decide) (by decide) W
  have hd : ((s.size : Int) < 32) := by omega
  have hwi : IntKind.i64.wrap (160 + (s.size : Int)) = ((160 + s.size : Nat) : Int) := by rw [IntWalk.i64_in _ (by omega)]; omega
  obtain ⟨Q, hQ⟩ : ∃ Q, B ([ch (160 + s.size)]) = Q := ⟨_, rfl⟩
  have hbg : ¬ 9223372036854775807 < Q.size + s.size := by rw [← hQ, size_B]; simp only [List.length_cons, List.length_nil]; omega
  replace hca : ∀ W, Calls Tryz.prog 45 #[.int .i64 ((160 + s.size : Nat) : Int), .int .u64 ((0 : Nat) : Int), .int .i64 ((0 : Nat) : Int)] W fun e w' => e = .returned (.string Q) ∧ Below W.heap.size W w' := fun W => (hca W).mono (by rintro e w' ⟨q, rfl, hq, hb⟩; exact ⟨by rw [← hQ, ← B_tx q, hq] <;> rfl, hb⟩)
  have HQ := hid (show tx (Q ++ s) = [ch (160 + s.size)] ++ tx s by rw [tx_app, ← hQ, tx_B])
  clear hs hQ hlt
  go_enter Tryz.func33, Tryz.ntmps33
  go_wp2
  clear hW0
  go_loopw [3, 4] (fun v3 v4 wr => v3 = .string ⟨#[]⟩ ∧ v4 = .int .i64 (0 : Int) ∧ wr = W0) (fun _ _ _ => 0)
  case atStart => exact ⟨rfl, rfl, rfl⟩
  case round =>
    obtain ⟨rfl, rfl, rfl⟩ := hrel
    go_wp2
    clear y0 y1 y2 y3 y4 y5 y6 y8
    have hBB := Below.trans HX.out.1 (Below.refl w.heap.size _)
    go_region_held3 (fun w' => w'.cell? ⟨w.heap.size, 7, none⟩ = some (.string s) ∧ Below w.heap.size w w')
      (first
        | (refine ⟨?_, ?_⟩ <;> first | assumption | exact cell_below (by assumption) hbX | exact below_nextW (by assumption) hbX | exact Below.drew (by assumption))
        | go_keep
        | (go_split_ands
           refine ⟨?_, ?_⟩ <;> first | assumption | exact cell_below (by assumption) hbX | exact below_nextW (by assumption) hbX | exact Below.drew (by assumption)))
      (first
        | (go_at_call 45; refine (hca _).mono ?_; rintro e wr ⟨rfl, hbX⟩))
    all_goals (
      go_wp2
      go_ret
      go_split_ands
      exact ⟨_, rfl, HQ.out, by assumption⟩)
set_option maxRecDepth 100000 in
set_option maxHeartbeats 4000000 in
theorem rw_5b (b n : Bool) (dg : ByteArray) (ex : Int) (u : Nat) (wd : Int) (s : ByteArray) (hs : s.size ≤ 400) (hlt : 32 ≤ s.size) : RLeaf ⟨5, b, n, dg, ex, u, wd, s⟩ (sizedE s.size 217 218 219 0 ++ tx s) := by
  intro a c w
  have hbx := Cls.new w 27 (ndL ⟨5, b, n, dg, ex, u, wd, s⟩ (.slice a 0 c))
  have hbb := below_alloc w (.cells (ndL ⟨5, b, n, dg, ex, u, wd, s⟩ (.slice a 0 c)).toArray 27)
  obtain ⟨W0, hW0⟩ : ∃ W0, w.alloc (.cells (ndL ⟨5, b, n, dg, ex, u, wd, s⟩ (.slice a 0 c)).toArray 27) = W0 := ⟨_, rfl⟩
  rw [hW0] at hbx hbb
  obtain ⟨y0, y1, y2, y3, y4, y5, y6, y7, y8⟩ := hbx.nine
  have HX := hid (And.intro hbb hbx)
  clear hbb hbx
  simp only [ndL] at hW0 y0 y1 y2 y3 y4 y5 y6 y7 y8
  simp only [ndV, ndL]
  have hca := fun W => rsized_calls s.size (by omega) 217 218 219 0 (by decide) (by decide) (by decide) (by decide) W
  have hwu : IntKind.u64.wrap (s.size : Int) = (s.size : Int) := IntWalk.u64_in _ (by omega)
  have hd : decide ((s.size : Int) < 32) = false := decide_eq_false (by omega)
  obtain ⟨Q, hQ⟩ : ∃ Q, B (sizedE s.size 217 218 219 0) = Q := ⟨_, rfl⟩
  have hbg : ¬ 9223372036854775807 < Q.size + s.size := by rw [← hQ, size_B]; have := (sizedE_len s.size 217 218 219 0).2; omega
  replace hca : ∀ W, Calls Tryz.prog 46 #[.int .u64 (s.size : Int), .int .i64 217, .int .i64 ((218 : Nat) : Int), .int .i64 ((219 : Nat) : Int), .int .i64 ((0 : Nat) : Int)] W fun e w' => e = .returned (.string Q) ∧ Below W.heap.size W w' := fun W => (hca W).mono (by rintro e w' ⟨q, rfl, hq, hb⟩; exact ⟨by rw [← hQ, ← B_tx q, hq] <;> rfl, hb⟩)
  have HQ := hid (show tx (Q ++ s) = sizedE s.size 217 218 219 0 ++ tx s by rw [tx_app, ← hQ, tx_B])
  clear hs hQ hlt
  go_enter Tryz.func33, Tryz.ntmps33
  go_wp2
  clear hW0
  go_loopw [3, 4] (fun v3 v4 wr => v3 = .string ⟨#[]⟩ ∧ v4 = .int .i64 (0 : Int) ∧ wr = W0) (fun _ _ _ => 0)
  case atStart => exact ⟨rfl, rfl, rfl⟩
  case round =>
    obtain ⟨rfl, rfl, rfl⟩ := hrel
    go_wp2
    clear y0 y1 y2 y3 y4 y5 y6 y8
    have hBB := Below.trans HX.out.1 (Below.refl w.heap.size _)
    go_region_held3 (fun w' => w'.cell? ⟨w.heap.size, 7, none⟩ = some (.string s) ∧ Below w.heap.size w w')
      (first
        | (refine ⟨?_, ?_⟩ <;> first | assumption | exact cell_below (by assumption) hbX | exact below_nextW (by assumption) hbX | exact Below.drew (by assumption))
        | go_keep
        | (go_split_ands
           refine ⟨?_, ?_⟩ <;> first | assumption | exact cell_below (by assumption) hbX | exact below_nextW (by assumption) hbX | exact Below.drew (by assumption)))
      (first
        | (go_at_call 46; refine (hca _).mono ?_; rintro e wr ⟨rfl, hbX⟩))
    all_goals (
      go_wp2
      go_ret
      go_split_ands
      exact ⟨_, rfl, HQ.out, by assumption⟩)
set_option maxRecDepth 100000 in
set_option maxHeartbeats 4000000 in
theorem rw_6 (b n : Bool) (dg : ByteArray) (ex : Int) (u : Nat) (wd : Int) (s : ByteArray) (hs : s.size ≤ 400) : RLeaf ⟨6, b, n, dg, ex, u, wd, s⟩ (sizedE s.size 196 197 198 0 ++ tx s) := by
  intro a c w
  have hbx := Cls.new w 27 (ndL ⟨6, b, n, dg, ex, u, wd, s⟩ (.slice a 0 c))
  have hbb := below_alloc w (.cells (ndL ⟨6, b, n, dg, ex, u, wd, s⟩ (.slice a 0 c)).toArray 27)
  obtain ⟨W0, hW0⟩ : ∃ W0, w.alloc (.cells (ndL ⟨6, b, n, dg, ex, u, wd, s⟩ (.slice a 0 c)).toArray 27) = W0 := ⟨_, rfl⟩
  rw [hW0] at hbx hbb
  obtain ⟨y0, y1, y2, y3, y4, y5, y6, y7, y8⟩ := hbx.nine
  have HX := hid (And.intro hbb hbx)
  clear hbb hbx
  simp only [ndL] at hW0 y0 y1 y2 y3 y4 y5 y6 y7 y8
  simp only [ndV, ndL]
  have hca := fun W => rsized_calls s.size (by omega) 196 197 198 0 (by decide) (by decide) (by decide) (by decide) W
  have hwu : IntKind.u64.wrap (s.size : Int) = (s.size : Int) := IntWalk.u64_in _ (by omega)
  obtain ⟨Q, hQ⟩ : ∃ Q, B (sizedE s.size 196 197 198 0) = Q := ⟨_, rfl⟩
  have hbg : ¬ 9223372036854775807 < Q.size + s.size := by rw [← hQ, size_B]; have := (sizedE_len s.size 196 197 198 0).2; omega
  replace hca : ∀ W, Calls Tryz.prog 46 #[.int .u64 (s.size : Int), .int .i64 196, .int .i64 ((197 : Nat) : Int), .int .i64 ((198 : Nat) : Int), .int .i64 ((0 : Nat) : Int)] W fun e w' => e = .returned (.string Q) ∧ Below W.heap.size W w' := fun W => (hca W).mono (by rintro e w' ⟨q, rfl, hq, hb⟩; exact ⟨by rw [← hQ, ← B_tx q, hq] <;> rfl, hb⟩)
  have HQ := hid (show tx (Q ++ s) = sizedE s.size 196 197 198 0 ++ tx s by rw [tx_app, ← hQ, tx_B])
  clear hs hQ
  go_enter Tryz.func33, Tryz.ntmps33
  go_wp2
  clear hW0
  go_loopw [3, 4] (fun v3 v4 wr => v3 = .string ⟨#[]⟩ ∧ v4 = .int .i64 (0 : Int) ∧ wr = W0) (fun _ _ _ => 0)
  case atStart => exact ⟨rfl, rfl, rfl⟩
  case round =>
    obtain ⟨rfl, rfl, rfl⟩ := hrel
    go_wp2
    clear y0 y1 y2 y3 y4 y5 y6 y8
    have hBB := Below.trans HX.out.1 (Below.refl w.heap.size _)
    go_region_held3 (fun w' => w'.cell? ⟨w.heap.size, 7, none⟩ = some (.string s) ∧ Below w.heap.size w w')
      (first
        | (refine ⟨?_, ?_⟩ <;> first | assumption | exact cell_below (by assumption) hbX | exact below_nextW (by assumption) hbX | exact Below.drew (by assumption))
        | go_keep
        | (go_split_ands
           refine ⟨?_, ?_⟩ <;> first | assumption | exact cell_below (by assumption) hbX | exact below_nextW (by assumption) hbX | exact Below.drew (by assumption)))
      (first
        | (go_at_call 46; refine (hca _).mono ?_; rintro e wr ⟨rfl, hbX⟩))
    all_goals (
      go_wp2
      go_ret
      go_split_ands
      exact ⟨_, rfl, HQ.out, by assumption⟩)
set_option maxRecDepth 100000 in
set_option maxHeartbeats 4000000 in
theorem rw_11 (b n : Bool) (dg : ByteArray) (ex : Int) (u : Nat) (wd : Int) (s : ByteArray) (hs : s.size ≤ 400) (hu : u ≤ 255) : RLeaf ⟨11, b, n, dg, ex, u, wd, s⟩ (extE s.size ++ (ch u :: tx s)) := by
  intro a c w
  have hbx := Cls.new w 27 (ndL ⟨11, b, n, dg, ex, u, wd, s⟩ (.slice a 0 c))
  have hbb := below_alloc w (.cells (ndL ⟨11, b, n, dg, ex, u, wd, s⟩ (.slice a 0 c)).toArray 27)
  obtain ⟨W0, hW0⟩ : ∃ W0, w.alloc (.cells (ndL ⟨11, b, n, dg, ex, u, wd, s⟩ (.slice a 0 c)).toArray 27) = W0 := ⟨_, rfl⟩
  rw [hW0] at hbx hbb
  obtain ⟨y0, y1, y2, y3, y4, y5, y6, y7, y8⟩ := hbx.nine
  have HX := hid (And.intro hbb hbx)
  clear hbb hbx
  simp only [ndL] at hW0 y0 y1 y2 y3 y4 y5 y6 y7 y8
  simp only [ndV, ndL]
  have hca := fun W => rext_calls ⟨11, b, n, dg, ex, u, wd, s⟩ hs hu (.slice a 0 c) W
  simp only [ndV, ndL] at hca
  clear hu hs
  go_enter Tryz.func33, Tryz.ntmps33
  go_wp2
  clear hW0
  go_loopw [3, 4] (fun v3 v4 wr => v3 = .string ⟨#[]⟩ ∧ v4 = .int .i64 (0 : Int) ∧ wr = W0) (fun _ _ _ => 0)
  case atStart => exact ⟨rfl, rfl, rfl⟩
  case round =>
    obtain ⟨rfl, rfl, rfl⟩ := hrel
    go_wp2_with fail
    refine (hca _).mono ?_
    rintro e w2 ⟨q, rfl, hq, hb2⟩
    have HB := hid (And.intro hq (HX.out.1.trans (hb2.mono HX.out.1.size)))
    clear hca hq hb2
    go_wp2
    go_ret
    exact ⟨q, rfl, HB.out.1, HB.out.2⟩
end Go.Proofs.YtpjlepkdiaohiaaGreatDoor

/- The reference of layer 15: write at arrays and maps: walked. -/
namespace Go.Proofs.YtpjlepkdiaohiaaGreatDoor
open Go.RowKit
attribute [local go_sem] Oper.semAt_some

def RWriteC (t : Tr) : Prop := t.okM → t.fine → t.cnt ≤ 300000000000 → ∀ (sl : Value) (w : World), InT w (ndV t.p sl) t →
  Calls Tryz.prog 33 #[ndV t.p sl] w fun e w' => ∃ q, e = .returned (.string q) ∧ tx q = t.enc ∧ Below w.heap.size w w'
theorem encL_len {l : List Tr} (h : ∀ t, t ∈ l → t.okM) : (encL l).length ≤ 410 * cntL l := by
  induction l with
  | nil => simp [encL]
  | cons t r ih =>
    rw [encL, cntL, List.length_append]
    have h1 := (enc_len t (h t (List.mem_cons_self ..))).2
    have h2 := ih (fun u hu => h u (List.mem_cons_of_mem _ hu))
    omega
theorem encL_take_le (l : List Tr) (k : Nat) : (encL (l.take k)).length ≤ (encL l).length := by
  conv => rhs; rw [← List.take_append_drop k l, encL_append, List.length_append]
  omega
def RList (p : Pay) (lst : List Tr) (hd : List UInt8) : Prop := (∀ t, t ∈ lst → RWriteC t) → (∀ t, t ∈ lst → t.okM) → (∀ t, t ∈ lst → t.fine) → cntL lst ≤ 300000000000 → lst.length ≤ 10000 → ∀ (a : Option Addr) (c : Nat) (f : Nat → Value) (w : World), ListAt w a f lst →
  Calls Tryz.prog 33 #[ndV p (.slice a lst.length c)] w fun e w' => ∃ q, e = .returned (.string q) ∧ tx q = hd ++ encL lst ∧ Below w.heap.size w w'
set_option maxRecDepth 100000 in
set_option maxHeartbeats 4000000 in
theorem rw_7s (b n : Bool) (dg : ByteArray) (ex : Int) (u : Nat) (wd : Int) (s : ByteArray) (lst : List Tr) (hlt : lst.length < 16) : RList ⟨7, b, n, dg, ex, u, wd, s⟩ lst ([ch (144 + lst.length)]) := by
  intro ih hok hfin hcnt hlen a c f w hL
  have hca : ∀ W, Calls Tryz.prog 45 #[.int .i64 (144 + (lst.length : Int)), .int .u64 ((0 : Nat) : Int), .int .i64 ((0 : Nat) : Int)] W fun e w' => ∃ q, e = .returned (.string q) ∧ tx q = ch (144 + lst.length) :: beL 0 0 ∧ Below W.heap.size W w' := fun W => by
    have h := rbytes_calls (144 + lst.length) 0 0 (by omega) (by decide) (by decide) W
    rw [show ((144 + lst.length : Nat) : Int) = 144 + (lst.length : Int) by omega] at h
    exact h
  have hd : (lst.length : Int) < 16 := by omega
  have hEL : (encL lst).length ≤ 123000000000000 := by have := encL_len hok; omega
  have hbx := Cls.new w 27 (ndL ⟨7, b, n, dg, ex, u, wd, s⟩ (.slice a lst.length c))
  have hbb := below_alloc w (.cells (ndL ⟨7, b, n, dg, ex, u, wd, s⟩ (.slice a lst.length c)).toArray 27)
  obtain ⟨W0, hW0⟩ : ∃ W0, w.alloc (.cells (ndL ⟨7, b, n, dg, ex, u, wd, s⟩ (.slice a lst.length c)).toArray 27) = W0 := ⟨_, rfl⟩
  rw [hW0] at hbx hbb
  obtain ⟨y0, y1, y2, y3, y4, y5, y6, y7, y8⟩ := hbx.nine
  have HX := hid (And.intro hbb hbx)
  have HL := hid (And.intro hL (And.intro ih (And.intro hok (And.intro hfin (And.intro hcnt hEL)))))
  clear hbb hbx hL ih hok hfin hcnt hEL hlt y0 y1 y2 y3 y4 y5 y6 y7
  simp only [ndL] at hW0 y8
  simp only [ndV, ndL]
  go_enter Tryz.func33, Tryz.ntmps33
  go_wp2
  clear hW0 y8
  go_loopw [3, 4] (fun v3 v4 wr => ∃ (k : Nat) (q : ByteArray), v3 = .string q ∧ v4 = .int .i64 k ∧ k ≤ lst.length ∧ tx q = encL (lst.take k) ∧ Below W0.heap.size W0 wr) (fun _ v4 _ => lst.length - (intOf v4).toNat)
  case atStart => exact ⟨0, ⟨#[]⟩, rfl, rfl, Nat.zero_le _, rfl, Below.refl _ _⟩
  case round =>
    obtain ⟨k, q, rfl, rfl, hk, hq, hbw⟩ := hrel
    have hwr := HX.out.1.trans (hbw.mono HX.out.1.size)
    have c8 := (HX.out.2.below hbw).cell 8 rfl
    by_cases hkl : k < lst.length
    · obtain ⟨hL, ih, hok, hfin, hcnt, hEL⟩ := HL.out
      obtain ⟨t, ht⟩ : ∃ t, lst[k]? = some t := ⟨_, List.getElem?_eq_getElem hkl⟩
      obtain ⟨⟨g, o, rfl, ca1⟩, ta⟩ := (hL.up hwr) k t ht
      obtain ⟨l1, q1, n1, c1, f1, -, g1, rfl, -⟩ := InT.inv ta
      rw [g1] at ca1 ta
      have hmem := List.mem_of_getElem? ht
      have hkz : (k : Int) < lst.length := by omega
      obtain ⟨a0, a1, a2, a3, a4, a5, a6, a7, a8⟩ := ca1.cells
      have hcall := ih t hmem (hok t hmem) (hfin t hmem) (Nat.le_trans (cnt_mem hmem) hcnt) (.slice q1 l1.length c1) wr ta
      have hstep : ∀ z : ByteArray, tx z = t.enc → tx (q ++ z) = encL (lst.take (k + 1)) := fun z hz => by rw [tx_app, hq, hz, encL_take_succ ht]
      have hsz : ∀ z : ByteArray, tx z = t.enc → ¬ 9223372036854775807 < q.size + z.size := fun z hz => by
        have h1 := congrArg List.length (hstep z hz)
        have h2 := encL_take_le lst (k + 1)
        rw [tx_app, List.length_append] at h1
        have h3 := len_str q
        have h4 := len_str z
        unfold tx at h1
        omega
      have HZ := hid (And.intro hbw (And.intro hstep hsz))
      clear hL ih hok hfin hcnt hEL ta ca1 g1 hbw ht hwr hmem hq hstep hsz
      simp only [ndV, ndL] at hcall c8
      go_wp2_with fail
      refine hcall.mono ?_
      rintro e w2 ⟨z, rfl, hz, hb1⟩
      have hbg := HZ.out.2.2 z hz
      have HS := hid (And.intro (HZ.out.2.1 z hz) (HZ.out.1.trans (hb1.mono HZ.out.1.size)))
      clear hcall hb1 hz a0 a1 a2 a3 a4 a5 a6 a7 a8 c8
      go_wp2
      go_roundw
      case rel => exact ⟨k + 1, _, rfl, by simp, by omega, HS.out.1, HS.out.2⟩
      case measure => simp [intOf]; omega
    · have hkz : decide (k < lst.length) = false := decide_eq_false (by omega)
      obtain rfl : k = lst.length := by omega
      rw [List.take_of_length_le (Nat.le_refl _)] at hq
      have hqs : q.size ≤ 123000000000000 := by rw [tx_size hq]; exact HL.out.2.2.2.2.2
      have c7 := (HX.out.2.below hbw).cell 7 rfl
      have c0 := (HX.out.2.below hbw).cell 0 rfl
      have HS := hid (And.intro hq hwr)
      clear hk hkl hbw hq hwr
      dsimp only at c0 c7 c8
      go_wp2_with fail
      refine (hca _).mono ?_
      rintro e w2 ⟨z, rfl, hz, hb2⟩
      have hbg : ¬ 9223372036854775807 < z.size + q.size := by
        have h1 := tx_size hz
        simp only [List.length_cons, beL_len] at h1; omega
      have HT := hid (And.intro hz (HS.out.2.trans (hb2.mono HS.out.2.size)))
      clear hca hz hb2 c0 c7 c8
      go_wp2
      go_ret
      exact ⟨_, rfl, by rw [tx_app, HT.out.1, HS.out.1] <;> rfl, HT.out.2⟩
set_option maxRecDepth 100000 in
set_option maxHeartbeats 4000000 in
theorem rw_7g (b n : Bool) (dg : ByteArray) (ex : Int) (u : Nat) (wd : Int) (s : ByteArray) (lst : List Tr) (hlt : 16 ≤ lst.length) : RList ⟨7, b, n, dg, ex, u, wd, s⟩ lst (sizedE lst.length (-1) 220 221 0) := by
  intro ih hok hfin hcnt hlen a c f w hL
  have hca := fun W => rsized_calls lst.length (by omega) (-1) 220 221 0 (by decide) (by decide) (by decide) (by decide) W
  have hd : decide ((lst.length : Int) < 16) = false := decide_eq_false (by omega)
  have hwu : IntKind.u64.wrap (lst.length : Int) = (lst.length : Int) := IntWalk.u64_in _ (by omega)
  have hEL : (encL lst).length ≤ 123000000000000 := by have := encL_len hok; omega
  have hbx := Cls.new w 27 (ndL ⟨7, b, n, dg, ex, u, wd, s⟩ (.slice a lst.length c))
  have hbb := below_alloc w (.cells (ndL ⟨7, b, n, dg, ex, u, wd, s⟩ (.slice a lst.length c)).toArray 27)
  obtain ⟨W0, hW0⟩ : ∃ W0, w.alloc (.cells (ndL ⟨7, b, n, dg, ex, u, wd, s⟩ (.slice a lst.length c)).toArray 27) = W0 := ⟨_, rfl⟩
  rw [hW0] at hbx hbb
  obtain ⟨y0, y1, y2, y3, y4, y5, y6, y7, y8⟩ := hbx.nine
  have HX := hid (And.intro hbb hbx)
  have HL := hid (And.intro hL (And.intro ih (And.intro hok (And.intro hfin (And.intro hcnt hEL)))))
  clear hbb hbx hL ih hok hfin hcnt hEL hlt y0 y1 y2 y3 y4 y5 y6 y7
  simp only [ndL] at hW0 y8
  simp only [ndV, ndL]
  go_enter Tryz.func33, Tryz.ntmps33
  go_wp2
  clear hW0 y8
  go_loopw [3, 4] (fun v3 v4 wr => ∃ (k : Nat) (q : ByteArray), v3 = .string q ∧ v4 = .int .i64 k ∧ k ≤ lst.length ∧ tx q = encL (lst.take k) ∧ Below W0.heap.size W0 wr) (fun _ v4 _ => lst.length - (intOf v4).toNat)
  case atStart => exact ⟨0, ⟨#[]⟩, rfl, rfl, Nat.zero_le _, rfl, Below.refl _ _⟩
  case round =>
    obtain ⟨k, q, rfl, rfl, hk, hq, hbw⟩ := hrel
    have hwr := HX.out.1.trans (hbw.mono HX.out.1.size)
    have c8 := (HX.out.2.below hbw).cell 8 rfl
    by_cases hkl : k < lst.length
    · obtain ⟨hL, ih, hok, hfin, hcnt, hEL⟩ := HL.out
      obtain ⟨t, ht⟩ : ∃ t, lst[k]? = some t := ⟨_, List.getElem?_eq_getElem hkl⟩
      obtain ⟨⟨g, o, rfl, ca1⟩, ta⟩ := (hL.up hwr) k t ht
      obtain ⟨l1, q1, n1, c1, f1, -, g1, rfl, -⟩ := InT.inv ta
      rw [g1] at ca1 ta
      have hmem := List.mem_of_getElem? ht
      have hkz : (k : Int) < lst.length := by omega
      obtain ⟨a0, a1, a2, a3, a4, a5, a6, a7, a8⟩ := ca1.cells
      have hcall := ih t hmem (hok t hmem) (hfin t hmem) (Nat.le_trans (cnt_mem hmem) hcnt) (.slice q1 l1.length c1) wr ta
      have hstep : ∀ z : ByteArray, tx z = t.enc → tx (q ++ z) = encL (lst.take (k + 1)) := fun z hz => by rw [tx_app, hq, hz, encL_take_succ ht]
      have hsz : ∀ z : ByteArray, tx z = t.enc → ¬ 9223372036854775807 < q.size + z.size := fun z hz => by
        have h1 := congrArg List.length (hstep z hz)
        have h2 := encL_take_le lst (k + 1)
        rw [tx_app, List.length_append] at h1
        have h3 := len_str q
        have h4 := len_str z
        unfold tx at h1
        omega
      have HZ := hid (And.intro hbw (And.intro hstep hsz))
      clear hL ih hok hfin hcnt hEL ta ca1 g1 hbw ht hwr hmem hq hstep hsz
      simp only [ndV, ndL] at hcall c8
      go_wp2_with fail
      refine hcall.mono ?_
      rintro e w2 ⟨z, rfl, hz, hb1⟩
      have hbg := HZ.out.2.2 z hz
      have HS := hid (And.intro (HZ.out.2.1 z hz) (HZ.out.1.trans (hb1.mono HZ.out.1.size)))
      clear hcall hb1 hz a0 a1 a2 a3 a4 a5 a6 a7 a8 c8
      go_wp2
      go_roundw
      case rel => exact ⟨k + 1, _, rfl, by simp, by omega, HS.out.1, HS.out.2⟩
      case measure => simp [intOf]; omega
    · have hkz : decide (k < lst.length) = false := decide_eq_false (by omega)
      obtain rfl : k = lst.length := by omega
      rw [List.take_of_length_le (Nat.le_refl _)] at hq
      have hqs : q.size ≤ 123000000000000 := by rw [tx_size hq]; exact HL.out.2.2.2.2.2
      have c7 := (HX.out.2.below hbw).cell 7 rfl
      have c0 := (HX.out.2.below hbw).cell 0 rfl
      have HS := hid (And.intro hq hwr)
      clear hk hkl hbw hq hwr
      dsimp only at c0 c7 c8
      go_wp2_with fail
      refine (hca _).mono ?_
      rintro e w2 ⟨z, rfl, hz, hb2⟩
      have hbg : ¬ 9223372036854775807 < z.size + q.size := by
        have h1 := tx_size hz
        have := (sizedE_len lst.length (-1) 220 221 0).2; omega
      have HT := hid (And.intro hz (HS.out.2.trans (hb2.mono HS.out.2.size)))
      clear hca hz hb2 c0 c7 c8
      go_wp2
      go_ret
      exact ⟨_, rfl, by rw [tx_app, HT.out.1, HS.out.1] <;> rfl, HT.out.2⟩
set_option maxRecDepth 100000 in
set_option maxHeartbeats 4000000 in
theorem rw_8s (b n : Bool) (dg : ByteArray) (ex : Int) (u : Nat) (wd : Int) (s : ByteArray) (lst : List Tr) (hlt : lst.length < 32) : RList ⟨8, b, n, dg, ex, u, wd, s⟩ lst ([ch (128 + lst.length / 2)]) := by
  intro ih hok hfin hcnt hlen a c f w hL
  have hca : ∀ W, Calls Tryz.prog 45 #[.int .i64 (128 + (lst.length : Int) / 2), .int .u64 ((0 : Nat) : Int), .int .i64 ((0 : Nat) : Int)] W fun e w' => ∃ q, e = .returned (.string q) ∧ tx q = ch (128 + lst.length / 2) :: beL 0 0 ∧ Below W.heap.size W w' := fun W => by
    have h := rbytes_calls (128 + lst.length / 2) 0 0 (by omega) (by decide) (by decide) W
    rw [show ((128 + lst.length / 2 : Nat) : Int) = 128 + (lst.length : Int) / 2 by omega] at h
    exact h
  have hd : (lst.length : Int) < 32 := by omega
  have hEL : (encL lst).length ≤ 123000000000000 := by have := encL_len hok; omega
  have hbx := Cls.new w 27 (ndL ⟨8, b, n, dg, ex, u, wd, s⟩ (.slice a lst.length c))
  have hbb := below_alloc w (.cells (ndL ⟨8, b, n, dg, ex, u, wd, s⟩ (.slice a lst.length c)).toArray 27)
  obtain ⟨W0, hW0⟩ : ∃ W0, w.alloc (.cells (ndL ⟨8, b, n, dg, ex, u, wd, s⟩ (.slice a lst.length c)).toArray 27) = W0 := ⟨_, rfl⟩
  rw [hW0] at hbx hbb
  obtain ⟨y0, y1, y2, y3, y4, y5, y6, y7, y8⟩ := hbx.nine
  have HX := hid (And.intro hbb hbx)
  have HL := hid (And.intro hL (And.intro ih (And.intro hok (And.intro hfin (And.intro hcnt hEL)))))
  clear hbb hbx hL ih hok hfin hcnt hEL hlt y0 y1 y2 y3 y4 y5 y6 y7
  simp only [ndL] at hW0 y8
  simp only [ndV, ndL]
  go_enter Tryz.func33, Tryz.ntmps33
  go_wp2
  clear hW0 y8
  go_loopw [3, 4] (fun v3 v4 wr => ∃ (k : Nat) (q : ByteArray), v3 = .string q ∧ v4 = .int .i64 k ∧ k ≤ lst.length ∧ tx q = encL (lst.take k) ∧ Below W0.heap.size W0 wr) (fun _ v4 _ => lst.length - (intOf v4).toNat)
  case atStart => exact ⟨0, ⟨#[]⟩, rfl, rfl, Nat.zero_le _, rfl, Below.refl _ _⟩
  case round =>
    obtain ⟨k, q, rfl, rfl, hk, hq, hbw⟩ := hrel
    have hwr := HX.out.1.trans (hbw.mono HX.out.1.size)
    have c8 := (HX.out.2.below hbw).cell 8 rfl
    by_cases hkl : k < lst.length
    · obtain ⟨hL, ih, hok, hfin, hcnt, hEL⟩ := HL.out
      obtain ⟨t, ht⟩ : ∃ t, lst[k]? = some t := ⟨_, List.getElem?_eq_getElem hkl⟩
      obtain ⟨⟨g, o, rfl, ca1⟩, ta⟩ := (hL.up hwr) k t ht
      obtain ⟨l1, q1, n1, c1, f1, -, g1, rfl, -⟩ := InT.inv ta
      rw [g1] at ca1 ta
      have hmem := List.mem_of_getElem? ht
      have hkz : (k : Int) < lst.length := by omega
      obtain ⟨a0, a1, a2, a3, a4, a5, a6, a7, a8⟩ := ca1.cells
      have hcall := ih t hmem (hok t hmem) (hfin t hmem) (Nat.le_trans (cnt_mem hmem) hcnt) (.slice q1 l1.length c1) wr ta
      have hstep : ∀ z : ByteArray, tx z = t.enc → tx (q ++ z) = encL (lst.take (k + 1)) := fun z hz => by rw [tx_app, hq, hz, encL_take_succ ht]
      have hsz : ∀ z : ByteArray, tx z = t.enc → ¬ 9223372036854775807 < q.size + z.size := fun z hz => by
        have h1 := congrArg List.length (hstep z hz)
        have h2 := encL_take_le lst (k + 1)
        rw [tx_app, List.length_append] at h1
        have h3 := len_str q
        have h4 := len_str z
        unfold tx at h1
        omega
      have HZ := hid (And.intro hbw (And.intro hstep hsz))
      clear hL ih hok hfin hcnt hEL ta ca1 g1 hbw ht hwr hmem hq hstep hsz
      simp only [ndV, ndL] at hcall c8
      go_wp2_with fail
      refine hcall.mono ?_
      rintro e w2 ⟨z, rfl, hz, hb1⟩
      have hbg := HZ.out.2.2 z hz
      have HS := hid (And.intro (HZ.out.2.1 z hz) (HZ.out.1.trans (hb1.mono HZ.out.1.size)))
      clear hcall hb1 hz a0 a1 a2 a3 a4 a5 a6 a7 a8 c8
      go_wp2
      go_roundw
      case rel => exact ⟨k + 1, _, rfl, by simp, by omega, HS.out.1, HS.out.2⟩
      case measure => simp [intOf]; omega
    · have hkz : decide (k < lst.length) = false := decide_eq_false (by omega)
      obtain rfl : k = lst.length := by omega
      rw [List.take_of_length_le (Nat.le_refl _)] at hq
      have hqs : q.size ≤ 123000000000000 := by rw [tx_size hq]; exact HL.out.2.2.2.2.2
      have c7 := (HX.out.2.below hbw).cell 7 rfl
      have c0 := (HX.out.2.below hbw).cell 0 rfl
      have HS := hid (And.intro hq hwr)
      clear hk hkl hbw hq hwr
      dsimp only at c0 c7 c8
      go_wp2_with fail
      refine (hca _).mono ?_
      rintro e w2 ⟨z, rfl, hz, hb2⟩
      have hbg : ¬ 9223372036854775807 < z.size + q.size := by
        have h1 := tx_size hz
        simp only [List.length_cons, beL_len] at h1; omega
      have HT := hid (And.intro hz (HS.out.2.trans (hb2.mono HS.out.2.size)))
      clear hca hz hb2 c0 c7 c8
      go_wp2
      go_ret
      exact ⟨_, rfl, by rw [tx_app, HT.out.1, HS.out.1] <;> rfl, HT.out.2⟩
set_option maxRecDepth 100000 in
set_option maxHeartbeats 4000000 in
theorem rw_8g (b n : Bool) (dg : ByteArray) (ex : Int) (u : Nat) (wd : Int) (s : ByteArray) (lst : List Tr) (hlt : 32 ≤ lst.length) : RList ⟨8, b, n, dg, ex, u, wd, s⟩ lst (sizedE (lst.length / 2) (-1) 222 223 0) := by
  intro ih hok hfin hcnt hlen a c f w hL
  have hca : ∀ W, Calls Tryz.prog 46 #[.int .u64 ((lst.length : Int) / 2), .int .i64 (-1), .int .i64 ((222 : Nat) : Int), .int .i64 ((223 : Nat) : Int), .int .i64 ((0 : Nat) : Int)] W fun e w' => ∃ q, e = .returned (.string q) ∧ tx q = sizedE (lst.length / 2) (-1) 222 223 0 ∧ Below W.heap.size W w' := fun W => by
    have h := rsized_calls (lst.length / 2) (by omega) (-1) 222 223 0 (by decide) (by decide) (by decide) (by decide) W
    rw [show ((lst.length / 2 : Nat) : Int) = (lst.length : Int) / 2 by omega] at h
    exact h
  have hd : decide ((lst.length : Int) < 32) = false := decide_eq_false (by omega)
  have hwu : IntKind.u64.wrap ((lst.length : Int) / 2) = (lst.length : Int) / 2 := IntWalk.u64_in _ (by omega)
  have hEL : (encL lst).length ≤ 123000000000000 := by have := encL_len hok; omega
  have hbx := Cls.new w 27 (ndL ⟨8, b, n, dg, ex, u, wd, s⟩ (.slice a lst.length c))
  have hbb := below_alloc w (.cells (ndL ⟨8, b, n, dg, ex, u, wd, s⟩ (.slice a lst.length c)).toArray 27)
  obtain ⟨W0, hW0⟩ : ∃ W0, w.alloc (.cells (ndL ⟨8, b, n, dg, ex, u, wd, s⟩ (.slice a lst.length c)).toArray 27) = W0 := ⟨_, rfl⟩
  rw [hW0] at hbx hbb
  obtain ⟨y0, y1, y2, y3, y4, y5, y6, y7, y8⟩ := hbx.nine
  have HX := hid (And.intro hbb hbx)
  have HL := hid (And.intro hL (And.intro ih (And.intro hok (And.intro hfin (And.intro hcnt hEL)))))
  clear hbb hbx hL ih hok hfin hcnt hEL hlt y0 y1 y2 y3 y4 y5 y6 y7
  simp only [ndL] at hW0 y8
  simp only [ndV, ndL]
  go_enter Tryz.func33, Tryz.ntmps33
  go_wp2
  clear hW0 y8
  go_loopw [3, 4] (fun v3 v4 wr => ∃ (k : Nat) (q : ByteArray), v3 = .string q ∧ v4 = .int .i64 k ∧ k ≤ lst.length ∧ tx q = encL (lst.take k) ∧ Below W0.heap.size W0 wr) (fun _ v4 _ => lst.length - (intOf v4).toNat)
  case atStart => exact ⟨0, ⟨#[]⟩, rfl, rfl, Nat.zero_le _, rfl, Below.refl _ _⟩
  case round =>
    obtain ⟨k, q, rfl, rfl, hk, hq, hbw⟩ := hrel
    have hwr := HX.out.1.trans (hbw.mono HX.out.1.size)
    have c8 := (HX.out.2.below hbw).cell 8 rfl
    by_cases hkl : k < lst.length
    · obtain ⟨hL, ih, hok, hfin, hcnt, hEL⟩ := HL.out
      obtain ⟨t, ht⟩ : ∃ t, lst[k]? = some t := ⟨_, List.getElem?_eq_getElem hkl⟩
      obtain ⟨⟨g, o, rfl, ca1⟩, ta⟩ := (hL.up hwr) k t ht
      obtain ⟨l1, q1, n1, c1, f1, -, g1, rfl, -⟩ := InT.inv ta
      rw [g1] at ca1 ta
      have hmem := List.mem_of_getElem? ht
      have hkz : (k : Int) < lst.length := by omega
      obtain ⟨a0, a1, a2, a3, a4, a5, a6, a7, a8⟩ := ca1.cells
      have hcall := ih t hmem (hok t hmem) (hfin t hmem) (Nat.le_trans (cnt_mem hmem) hcnt) (.slice q1 l1.length c1) wr ta
      have hstep : ∀ z : ByteArray, tx z = t.enc → tx (q ++ z) = encL (lst.take (k + 1)) := fun z hz => by rw [tx_app, hq, hz, encL_take_succ ht]
      have hsz : ∀ z : ByteArray, tx z = t.enc → ¬ 9223372036854775807 < q.size + z.size := fun z hz => by
        have h1 := congrArg List.length (hstep z hz)
        have h2 := encL_take_le lst (k + 1)
        rw [tx_app, List.length_append] at h1
        have h3 := len_str q
        have h4 := len_str z
        unfold tx at h1
        omega
      have HZ := hid (And.intro hbw (And.intro hstep hsz))
      clear hL ih hok hfin hcnt hEL ta ca1 g1 hbw ht hwr hmem hq hstep hsz
      simp only [ndV, ndL] at hcall c8
      go_wp2_with fail
      refine hcall.mono ?_
      rintro e w2 ⟨z, rfl, hz, hb1⟩
      have hbg := HZ.out.2.2 z hz
      have HS := hid (And.intro (HZ.out.2.1 z hz) (HZ.out.1.trans (hb1.mono HZ.out.1.size)))
      clear hcall hb1 hz a0 a1 a2 a3 a4 a5 a6 a7 a8 c8
      go_wp2
      go_roundw
      case rel => exact ⟨k + 1, _, rfl, by simp, by omega, HS.out.1, HS.out.2⟩
      case measure => simp [intOf]; omega
    · have hkz : decide (k < lst.length) = false := decide_eq_false (by omega)
      obtain rfl : k = lst.length := by omega
      rw [List.take_of_length_le (Nat.le_refl _)] at hq
      have hqs : q.size ≤ 123000000000000 := by rw [tx_size hq]; exact HL.out.2.2.2.2.2
      have c7 := (HX.out.2.below hbw).cell 7 rfl
      have c0 := (HX.out.2.below hbw).cell 0 rfl
      have HS := hid (And.intro hq hwr)
      clear hk hkl hbw hq hwr
      dsimp only at c0 c7 c8
      go_wp2_with fail
      refine (hca _).mono ?_
      rintro e w2 ⟨z, rfl, hz, hb2⟩
      have hbg : ¬ 9223372036854775807 < z.size + q.size := by
        have h1 := tx_size hz
        have := (sizedE_len (lst.length / 2) (-1) 222 223 0).2; omega
      have HT := hid (And.intro hz (HS.out.2.trans (hb2.mono HS.out.2.size)))
      clear hca hz hb2 c0 c7 c8
      go_wp2
      go_ret
      exact ⟨_, rfl, by rw [tx_app, HT.out.1, HS.out.1] <;> rfl, HT.out.2⟩
end Go.Proofs.YtpjlepkdiaohiaaGreatDoor

/- The reference of layer 15: write, Write: walked. -/
namespace Go.Proofs.YtpjlepkdiaohiaaGreatDoor
open Go.RowKit
attribute [local go_sem] Oper.semAt_some

theorem rleaf_up {p : Pay} {hd : List UInt8} (h : RLeaf p hd) (he : hdE p 0 = hd) {sl : Value} {w : World} (hin : InT w (ndV p sl) (.nd p [])) :
    Calls Tryz.prog 33 #[ndV p sl] w fun e w' => ∃ q, e = .returned (.string q) ∧ tx q = (Tr.nd p []).enc ∧ Below w.heap.size w w' := by
  obtain ⟨l, a, n, c, f, hl, rfl, rfl, -⟩ := InT.inv hin
  obtain rfl : [] = l := (Tr.nd.inj hl).2
  rw [leaf_enc, he]
  exact h a c w
theorem rlist_up {p : Pay} {lst : List Tr} {hd : List UInt8} (h : RList p lst hd) (he : hdE p lst.length = hd) (hL : isLst p = true) (ih : ∀ t, t ∈ lst → RWriteC t) (hok : (Tr.nd p lst).okM) (hfin : (Tr.nd p lst).fine) (hc : (Tr.nd p lst).cnt ≤ 300000000000) {sl : Value} {w : World} (hin : InT w (ndV p sl) (.nd p lst)) :
    Calls Tryz.prog 33 #[ndV p sl] w fun e w' => ∃ q, e = .returned (.string q) ∧ tx q = (Tr.nd p lst).enc ∧ Below w.heap.size w w' := by
  obtain ⟨l, a, n, c, f, hl, rfl, rfl, hA⟩ := InT.inv hin
  obtain rfl : lst = l := (Tr.nd.inj hl).2
  rw [Tr.enc, if_pos hL, he]
  exact h ih (fun t ht => hok.sub ht) (fun t ht => hfin.sub ht) (by rw [Tr.cnt] at hc; omega) hfin.len a c f w hA

theorem rwrite_calls (t : Tr) : RWriteC t := by
  induction t using Tr.ind with
  | h p lst ih =>
    intro hok hfin hc sl w hin
    have hown := hok.own
    have hpay := hfin.pay
    have hsz := hok.size
    rcases hok.kinds with hk | hk | hk | hk | hk | hk | hk | hk | hk
    · obtain rfl := hok.leaf (by omega)
      have he : hdE p 0 = [192] := by unfold hdE; rw [if_pos hk]
      obtain ⟨k, b, n, dg, ex, u, wd, s⟩ := p
      dsimp only at hk; subst hk
      exact rleaf_up (rw_1 b n dg ex u wd s) he hin
    · obtain rfl := hok.leaf (by omega)
      have he : hdE p 0 = [if p.b then 195 else 194] := by unfold hdE; rw [if_neg (by omega), if_pos hk]
      obtain ⟨k, b, n, dg, ex, u, wd, s⟩ := p
      dsimp only at hk; subst hk
      cases b with
      | true => exact rleaf_up (rw_2t n dg ex u wd s) he hin
      | false => exact rleaf_up (rw_2f n dg ex u wd s) he hin
    · obtain rfl := hok.leaf (by omega)
      obtain ⟨h1, h2, h3⟩ := hok.num hk
      obtain ⟨-, h4, h5⟩ := dec_back h1 h2
      have he := hdE_num (p := p) 0 hk
      rw [h2, Bool.true_and] at he
      obtain ⟨k, b, n, dg, ex, u, wd, s⟩ := p
      dsimp only at hk; subst hk
      have hti := fun W => rtoInt_calls n dg ex (Nat.le_trans hpay.2.1 (by decide)) W
      rw [show (⟨n, tx dg, ex⟩ : D) = (⟨3, b, n, dg, ex, u, wd, s⟩ : Pay).d from rfl, h2, Bool.true_and] at hti
      obtain ⟨N, hN⟩ : ∃ N, tiN (⟨3, b, n, dg, ex, u, wd, s⟩ : Pay).d = N := ⟨_, rfl⟩
      rw [hN] at h3 h4 h5 he hti
      cases n with
      | true => exact rleaf_up (rw_3t b dg ex u wd s N (h5 rfl) (h3 rfl) hti) (by rw [he]; rfl) hin
      | false =>
        by_cases hlt : N < 128
        · exact rleaf_up (rw_3s b dg ex u wd s N hlt h4 hti) (by rw [he]; show numE false N = _; unfold numE; rw [if_neg (by decide), if_pos hlt]) hin
        · exact rleaf_up (rw_3g b dg ex u wd s N (by omega) h4 hti) (by rw [he]; show numE false N = _; unfold numE; rw [if_neg (by decide), if_neg hlt]) hin
    · obtain rfl := hok.leaf (by omega)
      have he : hdE p 0 = (if p.w = 32 then 202 :: beL 4 p.u else 203 :: beL 8 p.u) := by unfold hdE; rw [if_neg (by omega), if_neg (by omega), if_neg (by omega), if_pos hk]
      obtain ⟨k, b, n, dg, ex, u, wd, s⟩ := p
      dsimp only at hk; subst hk
      by_cases hw : wd = 32
      · subst hw
        exact rleaf_up (rw_4a b n dg ex u s hpay.2.2.2.1) he hin
      · exact rleaf_up (rw_4b b n dg ex u wd s hw hpay.2.2.2.1) (by rw [he]; dsimp only; rw [if_neg hw]; rfl) hin
    · obtain rfl := hok.leaf (by omega)
      have he : hdE p 0 = txtE p.s.size ++ tx p.s := by unfold hdE; rw [if_neg (by omega), if_neg (by omega), if_neg (by omega), if_neg (by omega), if_pos hk]
      obtain ⟨k, b, n, dg, ex, u, wd, s⟩ := p
      dsimp only at hk; subst hk
      dsimp only at he hsz
      by_cases hlt : s.size < 32
      · exact rleaf_up (rw_5a b n dg ex u wd s hsz hlt) (by rw [he]; unfold txtE; rw [if_pos hlt]) hin
      · exact rleaf_up (rw_5b b n dg ex u wd s hsz (by omega)) (by rw [he]; unfold txtE; rw [if_neg hlt]) hin
    · obtain rfl := hok.leaf (by omega)
      have he : hdE p 0 = binE p.s.size ++ tx p.s := by unfold hdE; rw [if_neg (by omega), if_neg (by omega), if_neg (by omega), if_neg (by omega), if_neg (by omega), if_pos hk]
      obtain ⟨k, b, n, dg, ex, u, wd, s⟩ := p
      dsimp only at hk; subst hk
      dsimp only at he hsz
      exact rleaf_up (rw_6 b n dg ex u wd s hsz) he hin
    · have he : hdE p lst.length = arrE lst.length := by unfold hdE; rw [if_neg (by omega), if_neg (by omega), if_neg (by omega), if_neg (by omega), if_neg (by omega), if_neg (by omega), if_pos hk]
      have hL : isLst p = true := by unfold isLst; rw [hk]; rfl
      obtain ⟨k, b, n, dg, ex, u, wd, s⟩ := p
      dsimp only at hk; subst hk
      by_cases hlt : lst.length < 16
      · exact rlist_up (rw_7s b n dg ex u wd s lst hlt) (by rw [he]; unfold arrE; rw [if_pos hlt]) hL ih hok hfin hc hin
      · exact rlist_up (rw_7g b n dg ex u wd s lst (by omega)) (by rw [he]; unfold arrE; rw [if_neg hlt]) hL ih hok hfin hc hin
    · have he : hdE p lst.length = mapE lst.length := by unfold hdE; rw [if_neg (by omega), if_neg (by omega), if_neg (by omega), if_neg (by omega), if_neg (by omega), if_neg (by omega), if_neg (by omega), if_pos hk]
      have hL : isLst p = true := by unfold isLst; rw [hk]; rfl
      obtain ⟨k, b, n, dg, ex, u, wd, s⟩ := p
      dsimp only at hk; subst hk
      by_cases hlt : lst.length < 32
      · exact rlist_up (rw_8s b n dg ex u wd s lst hlt) (by rw [he]; unfold mapE; rw [if_pos hlt]) hL ih hok hfin hc hin
      · exact rlist_up (rw_8g b n dg ex u wd s lst (by omega)) (by rw [he]; unfold mapE; rw [if_neg hlt]) hL ih hok hfin hc hin
    · obtain rfl := hok.leaf (by omega)
      rw [own_11 hk] at hown
      simp only [Bool.and_eq_true, decide_eq_true_eq] at hown
      have he : hdE p 0 = extE p.s.size ++ (ch p.u :: tx p.s) := by unfold hdE; rw [if_neg (by omega), if_neg (by omega), if_neg (by omega), if_neg (by omega), if_neg (by omega), if_neg (by omega), if_neg (by omega), if_neg (by omega)]
      obtain ⟨k, b, n, dg, ex, u, wd, s⟩ := p
      dsimp only at hk; subst hk
      dsimp only at he hsz
      exact rleaf_up (rw_11 b n dg ex u wd s hsz hown.2.2.1) he hin

set_option maxRecDepth 100000 in
set_option maxHeartbeats 4000000 in
theorem rWrite_calls (t : Tr) (hfin : t.fine) (hdep : t.dep ≤ 1000) (hcnt : t.cnt ≤ 300000000000) (sl : Value) (w : World) (hin : InT w (ndV t.p sl) t) :
    Calls Tryz.prog 19 #[ndV t.p sl] w fun e w' => e = .returned (.tuple #[.string (wrtS t), .int .i64 (chk t 4)]) ∧ Below w.heap.size w w' := by
  have hbb := below_alloc w (.cells (ndL t.p sl).toArray 27)
  have hS : St w w.heap.size t sl (w.alloc (.cells (ndL t.p sl).toArray 27)) := ⟨Cls.new w _ _, hin.up hbb, hbb⟩
  have hk1 := fun W h => rcheck4_calls t hfin hdep sl W h
  by_cases hc : chk t 4 = 0
  · have hk2 := fun W h => rwrite_calls t (chk_ok hc).1 hfin hcnt sl W h
    rw [wrtS_ok hc]
    rw [hc] at hk1 ⊢
    obtain ⟨l1, q1, n1, c1, f1, -, g1, rfl, -⟩ := InT.inv hin
    subst g1
    have HS := hid hS
    obtain ⟨y0, y1, y2, y3, y4, y5, y6, y7, y8⟩ := hS.box.nine
    clear hbb hin hfin hS hdep hcnt hc
    simp only [ndV, ndL] at y0 y1 y2 y3 y4 y5 y6 y7 y8 hk1 hk2 ⊢
    go_enter Tryz.func19, Tryz.ntmps19
    go_wp2_with fail
    refine (hk1 _ HS.out.inn).mono ?_
    rintro e w1 ⟨rfl, hb⟩
    have HS := hid (HS.out.up hb)
    clear hb y0 y1 y2 y3 y4 y5 y6 y7 y8 hk1
    obtain ⟨y0, y1, y2, y3, y4, y5, y6, y7, y8⟩ := HS.out.box.nine
    go_wp2_with fail
    refine (hk2 _ HS.out.inn).mono ?_
    rintro e w2 ⟨q, rfl, hq, hb⟩
    have hbe := (HS.out.up hb).below
    have HQ := hid hq
    clear hb y0 y1 y2 y3 y4 y5 y6 y7 y8 hk2 hq
    go_wp2
    go_ret2
    exact ⟨by rw [← HQ.out, B_tx]; rfl, hbe⟩
  · rw [wrtS_no hc]
    obtain ⟨C, hC⟩ : ∃ C, chk t 4 = C := ⟨_, rfl⟩
    rw [hC] at hc hk1 ⊢
    have hcz : (C != 0) = true := by rw [bne_iff_ne]; exact hc
    obtain ⟨l1, q1, n1, c1, f1, -, g1, rfl, -⟩ := InT.inv hin
    subst g1
    have HS := hid hS
    obtain ⟨y0, y1, y2, y3, y4, y5, y6, y7, y8⟩ := hS.box.nine
    clear hbb hin hfin hS hdep hcnt hc hC
    simp only [ndV, ndL] at y0 y1 y2 y3 y4 y5 y6 y7 y8 hk1 ⊢
    go_enter Tryz.func19, Tryz.ntmps19
    go_wp2_with fail
    refine (hk1 _ HS.out.inn).mono ?_
    rintro e w1 ⟨rfl, hb⟩
    have hbe := (HS.out.up hb).below
    clear hb y0 y1 y2 y3 y4 y5 y6 y7 y8 hk1
    go_wp2
    go_ret2
    exact ⟨rfl, hbe⟩
end Go.Proofs.YtpjlepkdiaohiaaGreatDoor

/- The statement MpwWrites: walked. -/
namespace Go.Proofs.YtpjlepkdiaohiaaGreatDoor
open Go.RowKit
attribute [local go_sem] Oper.semAt_some

set_option maxRecDepth 100000 in
set_option maxHeartbeats 8000000 in
theorem writes_law (t : Tr) (hwf : t.wf) (hct : t.cnt ≤ 1048576) (sl : Value) (w : World) {ea eb : Addr} (hT : TabT w ea eb) (hin : InT w (ndV t.p sl) t) :
    Calls Tryz.prog 4 #[ndV t.p sl] w fun e w' => e = .returned (.bool true) ∧ Below w.heap.size w w' := by
  have hbb := below_alloc w (.cells (ndL t.p sl).toArray 27)
  have hC := Cls.new w 27 (ndL t.p sl)
  have hsh := shown15_calls _ (hT.below hbb)
  have hN := NF.of hwf hT
  obtain ⟨l1, q1, n1, c1, f1, -, g1, rfl, -⟩ := InT.inv hin
  subst g1
  have HX := hid (And.intro hbb (And.intro hC (And.intro hin (And.intro hwf hN))))
  clear hbb hC hin hwf hN hT
  simp only [ndV, ndL] at hsh ⊢
  go_enter Tryz.func4, Tryz.ntmps4
  go_wp2_with fail
  refine hsh.mono ?_
  rintro e w1 ⟨rfl, hb1⟩
  obtain ⟨hbb, hC, hin, hwf, hN⟩ := HX.out
  have hC1 := hC.below hb1
  have hB1 := hbb.trans (hb1.mono hbb.size)
  have hfew := few_calls t hwf _ w1 (hin.up hB1)
  obtain ⟨y0, y1, y2, y3, y4, y5, y6, y7, y8⟩ := hC1.nine
  have HY := hid (And.intro hC1 (And.intro hB1 hN))
  clear hbb hC hin hwf hN hb1 hC1 hB1 HX hsh
  have hcn := Nat.le_trans (few_cnt_le t) hct
  obtain ⟨n, hn⟩ : ∃ n, fewT t = n := ⟨_, rfl⟩
  rw [hn] at hfew HY hcn
  clear hct
  clear hn
  simp only [ndV, ndL] at hfew
  go_wp2_with fail
  refine hfew.mono ?_
  rintro e w2 ⟨sl', rfl, hB2, hb2⟩
  obtain ⟨l9, q9, n9, c9, f9, -, rfl, -, -⟩ := InT.inv (p := n.p) hB2.toT
  obtain ⟨hC1, hB1, hN⟩ := HY.out
  have hC2 := hC1.below hb2
  obtain ⟨W, hW, hS⟩ : ∃ W, putN w2 w.heap.size 0 n.p (.slice q9 n9 c9) = W ∧ St w w.heap.size n (.slice q9 n9 c9) W := ⟨_, rfl, st_few hC1 hB1 (Nat.le_refl _) hB2 hb2⟩
  unfold putN at hW
  simp only [Nat.zero_add] at hW
  clear y0 y1 y2 y3 y4 y5 y6 y7 y8
  obtain ⟨u0, u1, u2, u3, u4, u5, u6, u7, u8⟩ := hC2.nine
  obtain ⟨v0, v1, v2, v3, v4, v5, v6, v7, v8⟩ := hC2.frozens
  obtain ⟨y0, y1, y2, y3, y4, y5, y6, y7, y8⟩ := hS.box.nine
  have HN := hid hN
  have HS := hid hS
  clear hB2 hb2 hC1 hB1 hN hC2 hS hfew HY
  have hc3 : n.cnt ≤ 300000000000 := by omega
  have hwn := fun Wx h1 h2 => write_calls n HN.out.fine HN.out.dep' hc3 (.slice q9 n9 c9) Wx (ea := ea) (eb := eb) h1 h2
  have hrn := fun Wx h2 => rWrite_calls n HN.out.fine HN.out.dep' hc3 (.slice q9 n9 c9) Wx h2
  have hsn := fun Wx h1 h2 => size_calls n HN.out.fine HN.out.dep' hc3 (.slice q9 n9 c9) Wx (ea := ea) (eb := eb) h1 h2
  obtain ⟨P, hP⟩ : ∃ P, wrtS n = P := ⟨_, rfl⟩
  obtain ⟨C, hC⟩ : ∃ C, chk n 4 = C := ⟨_, rfl⟩
  rw [hP, hC] at hwn hrn hsn
  have HK := hid (And.intro hwn (And.intro hrn hsn))
  clear hwn hrn hsn hP hC hcn hc3
  go_wp2_with fail
  clear hW u0 u1 u2 u3 u4 u5 u6 u7 u8 v0 v1 v2 v3 v4 v5 v6 v7 v8
  refine (HK.out.1 _ (HN.out.tab.below HS.out.below) HS.out.inn).mono ?_
  rintro e w3 ⟨rfl, hb⟩
  have HS := hid (HS.out.up hb)
  clear hb y0 y1 y2 y3 y4 y5 y6 y7 y8
  obtain ⟨y0, y1, y2, y3, y4, y5, y6, y7, y8⟩ := HS.out.box.nine
  go_wp2_with fail
  refine (HK.out.2.1 _ HS.out.inn).mono ?_
  rintro e w4 ⟨rfl, hb⟩
  have HS := hid (HS.out.up hb)
  clear hb y0 y1 y2 y3 y4 y5 y6 y7 y8
  obtain ⟨y0, y1, y2, y3, y4, y5, y6, y7, y8⟩ := HS.out.box.nine
  go_wp2_with fail
  refine (HK.out.2.2 _ (HN.out.tab.below HS.out.below) HS.out.inn).mono ?_
  rintro e w5 ⟨rfl, hb⟩
  have HS := hid (HS.out.up hb)
  clear hb y0 y1 y2 y3 y4 y5 y6 y7 y8
  obtain ⟨y0, y1, y2, y3, y4, y5, y6, y7, y8⟩ := HS.out.box.nine
  have hbe := HS.out.below
  have s1 : (P.toList == P.toList) = true := by simp
  clear y0 y1 y2 y3 y4 y5 y6 y7 y8
  go_wp2
  all_goals (
    go_ret
    exact ⟨by first | rfl | (simp; done), hbe⟩)
end Go.Proofs.YtpjlepkdiaohiaaGreatDoor

