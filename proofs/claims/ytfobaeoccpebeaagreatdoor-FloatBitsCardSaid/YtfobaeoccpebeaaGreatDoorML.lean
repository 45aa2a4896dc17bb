/- The reference's IsWidth, sizes, IsFinite, Widen (targumref05): walked. -/
import Derived.Test.YtfobaeoccpebeaaGreatDoorME
import Derived.Test.YtfobaeoccpebeaaGreatDoorMK
import Derived.Test.YtfobaeoccpebeaaGreatDoorMI
namespace Go.Proofs.YtfobaeoccpebeaaGreatDoor
open Go.RowKit Go.Shelf
attribute [local go_sem] Oper.semAt_some

theorem kk2 (s E : Nat) : (s * 2048 + E) * 4503599627370496 = s * 9223372036854775808 + E * 4503599627370496 := by omega
theorem kk1 (s : Nat) : (s * 2048 + 2047) * 4503599627370496 = s * 9223372036854775808 + 9218868437227405312 := by omega
theorem kk3 (s g : Nat) : s * C64 + 2047 * A64 + g = s * 9223372036854775808 + 9218868437227405312 + g := by unfold C64 A64; omega
theorem kk4 (s E g : Nat) : s * C64 + E * A64 + g = s * 9223372036854775808 + E * 4503599627370496 + g := by unfold C64 A64; rfl

theorem rIsWidth_calls (x : Int) (w : World) :
    Calls Tryz.prog 24 #[.int .i64 x] w fun e w' => e = .returned (.bool (isW x)) ∧ w = w' := by
  cases h : isW x with
  | true =>
    rcases isW_cases h with rfl | rfl | rfl
    all_goals (
      go_enter Tryz.func24, Tryz.ntmps24
      go_wp2
      go_ret
      exact ⟨rfl, rfl⟩)
  | false =>
    unfold isW at h
    rw [Bool.or_eq_false_iff, Bool.or_eq_false_iff, decide_eq_false_iff_not, decide_eq_false_iff_not, decide_eq_false_iff_not] at h
    obtain ⟨h1, h2, h3⟩ := h
    have g1 : (x == 16) = false := beq_eq_false_iff_ne.2 h1
    have g2 : (x == 32) = false := beq_eq_false_iff_ne.2 h2
    have g3 : (x == 64) = false := beq_eq_false_iff_ne.2 h3
    go_enter Tryz.func24, Tryz.ntmps24
    go_wp2
    go_ret
    exact ⟨rfl, rfl⟩
theorem rsizes16 (w : World) :
    Calls Tryz.prog 53 #[.int .i64 16] w fun e w' => e = .returned (.tuple #[.int .i64 10, .int .i64 5]) ∧ w = w' := by
  go_enter Tryz.func53, Tryz.ntmps53
  go_wp2
  go_ret2
  exact ⟨rfl, rfl⟩
theorem rsizes32 (w : World) :
    Calls Tryz.prog 53 #[.int .i64 32] w fun e w' => e = .returned (.tuple #[.int .i64 23, .int .i64 8]) ∧ w = w' := by
  go_enter Tryz.func53, Tryz.ntmps53
  go_wp2
  go_ret2
  exact ⟨rfl, rfl⟩
theorem rIsFinite_calls (b : Nat) (hb : b < 18446744073709551616) (w : World) :
    Calls Tryz.prog 26 #[.int .u64 b] w fun e w' => e = .returned (.bool (finB b)) ∧ w = w' := by
  obtain ⟨q, hq⟩ : ∃ q, b / 4503599627370496 = q := ⟨_, rfl⟩
  have hqd : (b : Int) / 4503599627370496 = (q : Int) := by omega
  have e1 := and_mask (x := q) (n := 11) (by omega) 2047 (by decide) (by decide)
  change _ = ((q % 2048 : Nat) : Int) at e1
  have hf : finB b = decide (q % 2048 ≠ 2047) := by unfold finB A64; rw [hq]
  obtain ⟨e, he⟩ : ∃ e, q % 2048 = e := ⟨_, rfl⟩
  rw [he] at e1 hf
  have hr : ((e : Int) != 2047) = finB b := by
    rw [hf]
    by_cases h : e = 2047
    · subst h; rfl
    · rw [decide_eq_true h, bne_iff_ne]; omega
  clear hq he hf hb
  go_enter Tryz.func26, Tryz.ntmps26
  go_wp2
  go_ret
  exact ⟨rfl, rfl⟩

set_option maxRecDepth 100000 in
set_option maxHeartbeats 4000000 in
theorem rwiden_none (b : Nat) (x : Int) (hx : isW x = false) (w : World) :
    Calls Tryz.prog 21 #[.int .u64 b, .int .i64 x] w fun e w' => e = .returned (.tuple #[.int .u64 0, .int .i64 2]) ∧ Below w.heap.size w w' := by
  have hiw := fun W => rIsWidth_calls x W
  rw [hx] at hiw
  go_enter Tryz.func21, Tryz.ntmps21
  go_wp2_with fail
  refine (hiw _).mono ?_
  rintro e w1 ⟨rfl, rfl⟩
  go_wp2
  go_ret2
  exact ⟨rfl, Below.refl _ _⟩
theorem rwiden_64 (b : Nat) (w : World) :
    Calls Tryz.prog 21 #[.int .u64 b, .int .i64 64] w fun e w' => e = .returned (.tuple #[.int .u64 b, .int .i64 0]) ∧ Below w.heap.size w w' := by
  have hiw := fun W => rIsWidth_calls 64 W
  change ∀ W, Calls _ _ _ _ fun e w' => e = .returned (.bool true) ∧ _ at hiw
  go_enter Tryz.func21, Tryz.ntmps21
  go_wp2_with fail
  refine (hiw _).mono ?_
  rintro e w1 ⟨rfl, rfl⟩
  go_wp2
  go_ret2
  exact ⟨rfl, Below.refl _ _⟩

set_option maxRecDepth 100000 in
set_option maxHeartbeats 4000000 in
theorem rwiden16_long (b : Nat) (hb2 : ¬ b < 65536) (w : World) :
    Calls Tryz.prog 21 #[.int .u64 b, .int .i64 16] w fun e w' => e = .returned (.tuple #[.int .u64 0, .int .i64 2]) ∧ Below w.heap.size w w' := by
  have hiw := fun W => rIsWidth_calls 16 W
  change ∀ W, Calls _ _ _ _ fun e w' => e = .returned (.bool true) ∧ _ at hiw
  obtain ⟨q, hq⟩ : ∃ q, b / 65536 = q := ⟨_, rfl⟩
  have hqd : (b : Int) / 65536 = (q : Int) := by omega
  have hq0 : ((q : Int) != 0) = true := by rw [bne_iff_ne]; omega
  clear hq hb2
  go_enter Tryz.func21, Tryz.ntmps21
  go_wp2_with fail
  refine (hiw _).mono ?_
  rintro e w1 ⟨rfl, rfl⟩
  go_wp2
  go_ret2
  exact ⟨rfl, Below.refl _ _⟩

set_option maxRecDepth 100000 in
set_option maxHeartbeats 4000000 in
theorem rwiden16_top (b : Nat) (hb2 : b < 65536) (he : b / 1024 % 32 = 31) (w : World) :
    Calls Tryz.prog 21 #[.int .u64 b, .int .i64 16] w fun e w' => e = .returned (.tuple #[.int .u64 (widV f16 b : Nat), .int .i64 0]) ∧ Below w.heap.size w w' := by
  have hb : b < 18446744073709551616 := by omega
  have hiw := fun W => rIsWidth_calls 16 W
  change ∀ W, Calls _ _ _ _ fun e w' => e = .returned (.bool true) ∧ _ at hiw
  have hsz := rsizes16
  have hV : widV f16 b = widV f16 b := rfl
  conv at hV => rhs; unfold widV
  change widV f16 b = (if b / 1024 % 32 = 31 then b / 32768 * C64 + 2047 * A64 + b % 1024 * 4398046511104 else if b / 1024 % 32 = 0 then (if b % 1024 = 0 then b / 32768 * C64 else b / 32768 * C64 + (1024 - 15 - up f16 (b % 1024)) * A64 + (b % 1024 * 2 ^ up f16 (b % 1024) - 1024) * 4398046511104) else b / 32768 * C64 + (b / 1024 % 32 + 1023 - 15) * A64 + b % 1024 * 4398046511104) at hV
  have hq0 : (b : Int) / 65536 = 0 := by omega
  obtain ⟨s, hs⟩ : ∃ s, b / 32768 = s := ⟨_, rfl⟩
  have hsd : (b : Int) / 32768 = (s : Int) := by omega
  have hs2 : s < 2 := by omega
  obtain ⟨q, hq⟩ : ∃ q, b / 1024 = q := ⟨_, rfl⟩
  have hqd : (b : Int) / 1024 = (q : Int) := by omega
  have e1 := and_mask (x := q) (n := 5) (by omega) 31 (by decide) (by decide)
  have e2 := and_mask (x := b) (n := 10) hb (1024 - 1) (by decide) (by decide)
  change _ = ((q % 32 : Nat) : Int) at e1
  change bits .and .u64 (b : Int) (1023 : Int) = ((b % 1024 : Nat) : Int) at e2
  rw [hq] at he hV
  rw [hs] at hV
  obtain ⟨e, hee⟩ : ∃ e, q % 32 = e := ⟨_, rfl⟩
  obtain ⟨f, hf⟩ : ∃ f, b % 1024 = f := ⟨_, rfl⟩
  rw [hee] at he e1 hV
  rw [hf] at e2 hV
  have hfl : f < 1024 := by omega
  have hel : e < 32 := by omega
  have hwe : IntKind.i64.wrap (e : Int) = (e : Int) := IntWalk.i64_in _ (by omega)
  obtain ⟨sv, hsv⟩ : ∃ v : Nat, s * 9223372036854775808 = v := ⟨_, rfl⟩
  have hsm : (s : Int) * 9223372036854775808 = (sv : Int) := by omega
  have hsw : IntKind.u64.wrap (sv : Int) = (sv : Int) := IntWalk.u64_in _ (by omega)
  subst he
  rw [if_pos rfl] at hV
  obtain ⟨fd, hfd⟩ : ∃ v : Nat, f * 4398046511104 = v := ⟨_, rfl⟩
  have hfm : (f : Int) * 4398046511104 = (fd : Int) := by omega
  have hfw : IntKind.u64.wrap (fd : Int) = (fd : Int) := IntWalk.u64_in _ (by omega)
  obtain ⟨v1, hv1⟩ : ∃ v : Nat, sv + 9218868437227405312 = v := ⟨_, rfl⟩
  obtain ⟨v2, hv2⟩ : ∃ v : Nat, v1 + fd = v := ⟨_, rfl⟩
  have k1 : (s * 2048 + 2047) * 4503599627370496 = v1 := by rw [kk1, hsv, hv1]
  have HR := hid (show widV f16 b = v2 by rw [hV, kk3, hsv, hv1, hfd, hv2])
  have g2 := or_add (a := s * 2048 + 2047) (b := fd) (n := 52) (by omega) (by omega)
  have g1 := or_add (a := s) (b := 9218868437227405312) (n := 63) (by decide) (by omega)
  change bits .or .u64 ((s * 9223372036854775808 : Nat) : Int) 9218868437227405312 = ((s * 9223372036854775808 + 9218868437227405312 : Nat) : Int) at g1
  rw [hsv, hv1] at g1
  change bits .or .u64 (((s * 2048 + 2047) * 4503599627370496 : Nat) : Int) (fd : Int) = (((s * 2048 + 2047) * 4503599627370496 + fd : Nat) : Int) at g2
  rw [k1, hv2] at g2
  clear hV hv1 hv2 hfd k1 hsv hf hee hq hs hfl hel hs2 hb hb2
  go_enter Tryz.func21, Tryz.ntmps21
  go_wp2_with fail
  refine (hiw _).mono ?_
  rintro e w1 ⟨rfl, rfl⟩
  go_wp2_with fail
  refine (hsz _).mono ?_
  rintro e w2 ⟨rfl, rfl⟩
  go_wp2
  go_quiet (fail)
  go_wp2
  go_ret2
  exact ⟨by rw [HR.out] <;> rfl, belowN (Below.refl _ _) _⟩

set_option maxRecDepth 100000 in
set_option maxHeartbeats 4000000 in
theorem rwiden16_zero (b : Nat) (hb2 : b < 65536) (he : b / 1024 % 32 = 0) (hf0 : b % 1024 = 0) (w : World) :
    Calls Tryz.prog 21 #[.int .u64 b, .int .i64 16] w fun e w' => e = .returned (.tuple #[.int .u64 (widV f16 b : Nat), .int .i64 0]) ∧ Below w.heap.size w w' := by
  have hb : b < 18446744073709551616 := by omega
  have hiw := fun W => rIsWidth_calls 16 W
  change ∀ W, Calls _ _ _ _ fun e w' => e = .returned (.bool true) ∧ _ at hiw
  have hsz := rsizes16
  have hV : widV f16 b = widV f16 b := rfl
  conv at hV => rhs; unfold widV
  change widV f16 b = (if b / 1024 % 32 = 31 then b / 32768 * C64 + 2047 * A64 + b % 1024 * 4398046511104 else if b / 1024 % 32 = 0 then (if b % 1024 = 0 then b / 32768 * C64 else b / 32768 * C64 + (1024 - 15 - up f16 (b % 1024)) * A64 + (b % 1024 * 2 ^ up f16 (b % 1024) - 1024) * 4398046511104) else b / 32768 * C64 + (b / 1024 % 32 + 1023 - 15) * A64 + b % 1024 * 4398046511104) at hV
  have hq0 : (b : Int) / 65536 = 0 := by omega
  obtain ⟨s, hs⟩ : ∃ s, b / 32768 = s := ⟨_, rfl⟩
  have hsd : (b : Int) / 32768 = (s : Int) := by omega
  have hs2 : s < 2 := by omega
  obtain ⟨q, hq⟩ : ∃ q, b / 1024 = q := ⟨_, rfl⟩
  have hqd : (b : Int) / 1024 = (q : Int) := by omega
  have e1 := and_mask (x := q) (n := 5) (by omega) 31 (by decide) (by decide)
  have e2 := and_mask (x := b) (n := 10) hb (1024 - 1) (by decide) (by decide)
  change _ = ((q % 32 : Nat) : Int) at e1
  change bits .and .u64 (b : Int) (1023 : Int) = ((b % 1024 : Nat) : Int) at e2
  rw [hq] at he hV
  rw [hs] at hV
  obtain ⟨e, hee⟩ : ∃ e, q % 32 = e := ⟨_, rfl⟩
  obtain ⟨f, hf⟩ : ∃ f, b % 1024 = f := ⟨_, rfl⟩
  rw [hee] at he e1 hV
  rw [hf] at e2 hV
  have hfl : f < 1024 := by omega
  have hel : e < 32 := by omega
  have hwe : IntKind.i64.wrap (e : Int) = (e : Int) := IntWalk.i64_in _ (by omega)
  obtain ⟨sv, hsv⟩ : ∃ v : Nat, s * 9223372036854775808 = v := ⟨_, rfl⟩
  have hsm : (s : Int) * 9223372036854775808 = (sv : Int) := by omega
  have hsw : IntKind.u64.wrap (sv : Int) = (sv : Int) := IntWalk.u64_in _ (by omega)
  rw [hf] at hf0
  subst he
  subst hf0
  rw [if_neg (by decide), if_pos rfl, if_pos rfl] at hV
  change bits .and .u64 (q : Int) 31 = 0 at e1
  change bits .and .u64 (b : Int) 1023 = 0 at e2
  have HR := hid (show widV f16 b = sv by rw [hV]; unfold C64; omega)
  clear hV hsv hf hee hq hs hfl hel hs2 hb hb2 hwe
  go_enter Tryz.func21, Tryz.ntmps21
  go_wp2_with fail
  refine (hiw _).mono ?_
  rintro e w1 ⟨rfl, rfl⟩
  go_wp2_with fail
  refine (hsz _).mono ?_
  rintro e w2 ⟨rfl, rfl⟩
  go_wp2
  go_quiet (fail)
  go_wp2
  go_ret2
  exact ⟨by rw [HR.out] <;> rfl, belowN (Below.refl _ _) _⟩

set_option maxRecDepth 100000 in
set_option maxHeartbeats 4000000 in
theorem rwiden16_main (b : Nat) (hb2 : b < 65536) (he : b / 1024 % 32 ≠ 0 ∧ b / 1024 % 32 ≠ 31) (w : World) :
    Calls Tryz.prog 21 #[.int .u64 b, .int .i64 16] w fun e w' => e = .returned (.tuple #[.int .u64 (widV f16 b : Nat), .int .i64 0]) ∧ Below w.heap.size w w' := by
  have hb : b < 18446744073709551616 := by omega
  have hiw := fun W => rIsWidth_calls 16 W
  change ∀ W, Calls _ _ _ _ fun e w' => e = .returned (.bool true) ∧ _ at hiw
  have hsz := rsizes16
  have hV : widV f16 b = widV f16 b := rfl
  conv at hV => rhs; unfold widV
  change widV f16 b = (if b / 1024 % 32 = 31 then b / 32768 * C64 + 2047 * A64 + b % 1024 * 4398046511104 else if b / 1024 % 32 = 0 then (if b % 1024 = 0 then b / 32768 * C64 else b / 32768 * C64 + (1024 - 15 - up f16 (b % 1024)) * A64 + (b % 1024 * 2 ^ up f16 (b % 1024) - 1024) * 4398046511104) else b / 32768 * C64 + (b / 1024 % 32 + 1023 - 15) * A64 + b % 1024 * 4398046511104) at hV
  have hq0 : (b : Int) / 65536 = 0 := by omega
  obtain ⟨s, hs⟩ : ∃ s, b / 32768 = s := ⟨_, rfl⟩
  have hsd : (b : Int) / 32768 = (s : Int) := by omega
  have hs2 : s < 2 := by omega
  obtain ⟨q, hq⟩ : ∃ q, b / 1024 = q := ⟨_, rfl⟩
  have hqd : (b : Int) / 1024 = (q : Int) := by omega
  have e1 := and_mask (x := q) (n := 5) (by omega) 31 (by decide) (by decide)
  have e2 := and_mask (x := b) (n := 10) hb (1024 - 1) (by decide) (by decide)
  change _ = ((q % 32 : Nat) : Int) at e1
  change bits .and .u64 (b : Int) (1023 : Int) = ((b % 1024 : Nat) : Int) at e2
  rw [hq] at he hV
  rw [hs] at hV
  obtain ⟨e, hee⟩ : ∃ e, q % 32 = e := ⟨_, rfl⟩
  obtain ⟨f, hf⟩ : ∃ f, b % 1024 = f := ⟨_, rfl⟩
  rw [hee] at he e1 hV
  rw [hf] at e2 hV
  have hfl : f < 1024 := by omega
  have hel : e < 32 := by omega
  have hwe : IntKind.i64.wrap (e : Int) = (e : Int) := IntWalk.i64_in _ (by omega)
  obtain ⟨sv, hsv⟩ : ∃ v : Nat, s * 9223372036854775808 = v := ⟨_, rfl⟩
  have hsm : (s : Int) * 9223372036854775808 = (sv : Int) := by omega
  have hsw : IntKind.u64.wrap (sv : Int) = (sv : Int) := IntWalk.u64_in _ (by omega)
  rw [if_neg he.2, if_neg he.1] at hV
  have he1 : ((e : Int) == 31) = false := by rw [beq_eq_false_iff_ne]; omega
  have he2 : ((e : Int) == 0) = false := by rw [beq_eq_false_iff_ne]; omega
  obtain ⟨E, hE⟩ : ∃ v : Nat, e + 1023 - 15 = v := ⟨_, rfl⟩
  rw [hE] at hV
  obtain ⟨y1, hy1⟩ : ∃ y : Int, (e : Int) - 15 = y := ⟨_, rfl⟩
  have hy2 : y1 + 1023 = (E : Int) := by omega
  have hyw1 : IntKind.i64.wrap y1 = y1 := IntWalk.i64_in _ (by omega)
  have hyw2 : IntKind.i64.wrap (E : Int) = (E : Int) := IntWalk.i64_in _ (by omega)
  have hyw3 : IntKind.u64.wrap (E : Int) = (E : Int) := IntWalk.u64_in _ (by omega)
  obtain ⟨ev, hev⟩ : ∃ v : Nat, E * 4503599627370496 = v := ⟨_, rfl⟩
  have hem : (E : Int) * 4503599627370496 = (ev : Int) := by omega
  have hew : IntKind.u64.wrap (ev : Int) = (ev : Int) := IntWalk.u64_in _ (by omega)
  obtain ⟨fd, hfd⟩ : ∃ v : Nat, f * 4398046511104 = v := ⟨_, rfl⟩
  have hfm : (f : Int) * 4398046511104 = (fd : Int) := by omega
  have hfw : IntKind.u64.wrap (fd : Int) = (fd : Int) := IntWalk.u64_in _ (by omega)
  obtain ⟨v1, hv1⟩ : ∃ v : Nat, sv + ev = v := ⟨_, rfl⟩
  obtain ⟨v2, hv2⟩ : ∃ v : Nat, v1 + fd = v := ⟨_, rfl⟩
  have k1 : (s * 2048 + E) * 4503599627370496 = v1 := by rw [kk2, hsv, hev, hv1]
  have HR := hid (show widV f16 b = v2 by rw [hV, kk4, hsv, hev, hv1, hfd, hv2])
  have g2 := or_add (a := s * 2048 + E) (b := fd) (n := 52) (by omega) (by omega)
  have g1 := or_add (a := s) (b := ev) (n := 63) (by omega) (by omega)
  change bits .or .u64 ((s * 9223372036854775808 : Nat) : Int) (ev : Int) = ((s * 9223372036854775808 + ev : Nat) : Int) at g1
  rw [hsv, hv1] at g1
  change bits .or .u64 (((s * 2048 + E) * 4503599627370496 : Nat) : Int) (fd : Int) = (((s * 2048 + E) * 4503599627370496 + fd : Nat) : Int) at g2
  rw [k1, hv2] at g2
  clear hV hv1 hv2 hfd k1 hsv hf hee hq hs hfl hel hs2 hb hb2 hev hE he
  go_enter Tryz.func21, Tryz.ntmps21
  go_wp2_with fail
  refine (hiw _).mono ?_
  rintro e w1 ⟨rfl, rfl⟩
  go_wp2_with fail
  refine (hsz _).mono ?_
  rintro e w2 ⟨rfl, rfl⟩
  go_wp2
  go_quiet (fail)
  go_wp2
  go_ret2
  exact ⟨by rw [HR.out] <;> rfl, belowN (Below.refl _ _) _⟩

set_option maxRecDepth 100000 in
set_option maxHeartbeats 4000000 in
theorem rwiden16_sub (b : Nat) (hb2 : b < 65536) (he : b / 1024 % 32 = 0) (hf0 : b % 1024 ≠ 0) (w : World) :
    Calls Tryz.prog 21 #[.int .u64 b, .int .i64 16] w fun e w' => e = .returned (.tuple #[.int .u64 (widV f16 b : Nat), .int .i64 0]) ∧ Below w.heap.size w w' := by
  have hb : b < 18446744073709551616 := by omega
  have hiw := fun W => rIsWidth_calls 16 W
  change ∀ W, Calls _ _ _ _ fun e w' => e = .returned (.bool true) ∧ _ at hiw
  have hsz := rsizes16
  have hV : widV f16 b = widV f16 b := rfl
  conv at hV => rhs; unfold widV
  change widV f16 b = (if b / 1024 % 32 = 31 then b / 32768 * C64 + 2047 * A64 + b % 1024 * 4398046511104 else if b / 1024 % 32 = 0 then (if b % 1024 = 0 then b / 32768 * C64 else b / 32768 * C64 + (1024 - 15 - up f16 (b % 1024)) * A64 + (b % 1024 * 2 ^ up f16 (b % 1024) - 1024) * 4398046511104) else b / 32768 * C64 + (b / 1024 % 32 + 1023 - 15) * A64 + b % 1024 * 4398046511104) at hV
  have hq0 : (b : Int) / 65536 = 0 := by omega
  obtain ⟨s, hs⟩ : ∃ s, b / 32768 = s := ⟨_, rfl⟩
  have hsd : (b : Int) / 32768 = (s : Int) := by omega
  have hs2 : s < 2 := by omega
  obtain ⟨q, hq⟩ : ∃ q, b / 1024 = q := ⟨_, rfl⟩
  have hqd : (b : Int) / 1024 = (q : Int) := by omega
  have e1 := and_mask (x := q) (n := 5) (by omega) 31 (by decide) (by decide)
  have e2 := and_mask (x := b) (n := 10) hb (1024 - 1) (by decide) (by decide)
  change _ = ((q % 32 : Nat) : Int) at e1
  change bits .and .u64 (b : Int) (1023 : Int) = ((b % 1024 : Nat) : Int) at e2
  rw [hq] at he hV
  rw [hs] at hV
  obtain ⟨e, hee⟩ : ∃ e, q % 32 = e := ⟨_, rfl⟩
  obtain ⟨f, hf⟩ : ∃ f, b % 1024 = f := ⟨_, rfl⟩
  rw [hee] at he e1 hV
  rw [hf] at e2 hV
  have hfl : f < 1024 := by omega
  have hel : e < 32 := by omega
  have hwe : IntKind.i64.wrap (e : Int) = (e : Int) := IntWalk.i64_in _ (by omega)
  obtain ⟨sv, hsv⟩ : ∃ v : Nat, s * 9223372036854775808 = v := ⟨_, rfl⟩
  have hsm : (s : Int) * 9223372036854775808 = (sv : Int) := by omega
  have hsw : IntKind.u64.wrap (sv : Int) = (sv : Int) := IntWalk.u64_in _ (by omega)
  rw [hf] at hf0
  subst he
  rw [if_neg (by decide), if_pos rfl, if_neg hf0] at hV
  change bits .and .u64 (q : Int) 31 = 0 at e1
  obtain ⟨u1, u2, u3, u4⟩ := up_spec f16 (by first | exact .inl rfl | exact .inr rfl) hf0 hfl
  change up f16 f ≤ 10 at u2
  change 1024 ≤ f * 2 ^ up f16 f at u3
  change f * 2 ^ up f16 f < 2 * 1024 at u4
  obtain ⟨U, hUe⟩ : ∃ U, up f16 f = U := ⟨_, rfl⟩
  rw [hUe] at u1 u2 u3 u4 hV
  have hf0b : ((f : Int) == 0) = false := by rw [beq_eq_false_iff_ne]; omega
  obtain ⟨Y, hY⟩ : ∃ v : Nat, f * 2 ^ U = v := ⟨_, rfl⟩
  have hstep : ∀ j, j < U → f * 2 ^ j < 1024 := by
    intro j hj
    have h1 : f * 2 ^ (j + 1) ≤ f * 2 ^ U := Nat.mul_le_mul_left _ (pow_le hj)
    rw [Nat.pow_succ, ← Nat.mul_assoc] at h1
    omega
  rw [hY] at u3 u4 hV
  obtain ⟨g, hg⟩ : ∃ v : Nat, Y - 1024 = v := ⟨_, rfl⟩
  have hgi : (Y : Int) - 1024 = (g : Int) := by omega
  have hgw : IntKind.u64.wrap (g : Int) = (g : Int) := IntWalk.u64_in _ (by omega)
  rw [hg] at hV
  obtain ⟨E, hE⟩ : ∃ v : Nat, 1024 - 15 - U = v := ⟨_, rfl⟩
  rw [hE] at hV
  obtain ⟨ye, hye⟩ : ∃ y : Int, 1 - (U : Int) = y := ⟨_, rfl⟩
  obtain ⟨y1, hy1⟩ : ∃ y : Int, ye - 15 = y := ⟨_, rfl⟩
  have hy2 : y1 + 1023 = (E : Int) := by omega
  have hyw1 : IntKind.i64.wrap y1 = y1 := IntWalk.i64_in _ (by omega)
  have hyw2 : IntKind.i64.wrap (E : Int) = (E : Int) := IntWalk.i64_in _ (by omega)
  have hyw3 : IntKind.u64.wrap (E : Int) = (E : Int) := IntWalk.u64_in _ (by omega)
  obtain ⟨ev, hev⟩ : ∃ v : Nat, E * 4503599627370496 = v := ⟨_, rfl⟩
  have hem : (E : Int) * 4503599627370496 = (ev : Int) := by omega
  have hew : IntKind.u64.wrap (ev : Int) = (ev : Int) := IntWalk.u64_in _ (by omega)
  obtain ⟨fd, hfd⟩ : ∃ v : Nat, g * 4398046511104 = v := ⟨_, rfl⟩
  have hfm : (g : Int) * 4398046511104 = (fd : Int) := by omega
  have hfw : IntKind.u64.wrap (fd : Int) = (fd : Int) := IntWalk.u64_in _ (by omega)
  obtain ⟨v1, hv1⟩ : ∃ v : Nat, sv + ev = v := ⟨_, rfl⟩
  obtain ⟨v2, hv2⟩ : ∃ v : Nat, v1 + fd = v := ⟨_, rfl⟩
  have k1 : (s * 2048 + E) * 4503599627370496 = v1 := by rw [kk2, hsv, hev, hv1]
  have HR := hid (show widV f16 b = v2 by rw [hV, kk4, hsv, hev, hv1, hfd, hv2])
  have g2 := or_add (a := s * 2048 + E) (b := fd) (n := 52) (by omega) (by omega)
  have g1 := or_add (a := s) (b := ev) (n := 63) (by omega) (by omega)
  change bits .or .u64 ((s * 9223372036854775808 : Nat) : Int) (ev : Int) = ((s * 9223372036854775808 + ev : Nat) : Int) at g1
  rw [hsv, hv1] at g1
  change bits .or .u64 (((s * 2048 + E) * 4503599627370496 : Nat) : Int) (fd : Int) = (((s * 2048 + E) * 4503599627370496 + fd : Nat) : Int) at g2
  rw [k1, hv2] at g2
  have HP := hid (And.intro hstep (And.intro u3 (And.intro u4 (And.intro hY u2))))
  have HU := hid hye
  clear hV hv1 hv2 hfd k1 hsv hf hee hq hs hel hs2 hb hb2 hev hE u1 u2 u3 u4 hg hY hUe hstep hye hwe hf0 hfl
  go_enter Tryz.func21, Tryz.ntmps21
  go_wp2_with fail
  refine (hiw _).mono ?_
  rintro e w1 ⟨rfl, rfl⟩
  go_wp2_with fail
  refine (hsz _).mono ?_
  rintro e w2 ⟨rfl, rfl⟩
  go_wp2
  go_quiet (fail)
  go_wp2
  have hWq : Below w.heap.size w (w.drewN nq) := belowN (Below.refl _ _) nq
  generalize w.drewN nq = Z1 at *
  go_loopw [9, 10] (fun v1 v2 wq => ∃ (j : Nat), j ≤ U ∧ v1 = .int .i64 (1 - (j : Int)) ∧ v2 = .int .u64 (f * 2 ^ j : Nat) ∧ Below w.heap.size w wq) (fun v1 _ _ => U - (1 - intOf v1).toNat)
  case atStart => exact ⟨0, Nat.zero_le _, rfl, by rw [Nat.pow_zero, Nat.mul_one], hWq⟩
  case round =>
    obtain ⟨j, hj, rfl, rfl, hB⟩ := hrel
    obtain ⟨hstep, u3, u4, hY, u2⟩ := HP.out
    obtain ⟨X, hX⟩ : ∃ v, f * 2 ^ j = v := ⟨_, rfl⟩
    by_cases hlt : X < 1024
    · have hjU : j < U := by
        rcases Nat.lt_or_ge j U with h | h
        · exact h
        · obtain rfl : j = U := by omega
          omega
      have hX0 : (X : Int) / 1024 = 0 := by omega
      obtain ⟨X2, hX2⟩ : ∃ v, f * 2 ^ (j + 1) = v := ⟨_, rfl⟩
      have hXX : 2 * (X : Int) = (X2 : Int) := by rw [← hX2, Nat.pow_succ, ← Nat.mul_assoc, hX]; omega
      have hXw : IntKind.u64.wrap (X2 : Int) = (X2 : Int) := IntWalk.u64_in _ (by omega)
      obtain ⟨a1, ha1⟩ : ∃ y : Int, 1 - (j : Int) = y := ⟨_, rfl⟩
      obtain ⟨a2, ha2⟩ : ∃ y : Int, a1 - 1 = y := ⟨_, rfl⟩
      have haw : IntKind.i64.wrap a2 = a2 := IntWalk.i64_in _ (by omega)
      rw [hX, ha1]
      have HX := hid (And.intro hX2 (And.intro hjU (And.intro ha1 ha2)))
      clear hX hX2 hlt hstep u3 u4 hY u2 hj hjU ha1
      go_wp2
      go_roundw
      case rel =>
        obtain ⟨k1, k2, k3, k4⟩ := HX.out
        refine ⟨j + 1, k2, ?_, by rw [k1], hB⟩
        congr 1
        omega
      case measure =>
        obtain ⟨k1, k2, k3, k4⟩ := HX.out
        simp [intOf]; omega
    · have hjU : j = U := by
        rcases Nat.lt_or_ge j U with h | h
        · exact absurd (hX ▸ hstep j h) hlt
        · omega
      subst hjU
      obtain rfl : X = Y := by rw [← hX, ← hY]
      obtain ⟨r, hr⟩ : ∃ r : Nat, X / 1024 = r := ⟨_, rfl⟩
      have hri : (X : Int) / 1024 = (r : Int) := by omega
      have hr0 : ((r : Int) == 0) = false := by rw [beq_eq_false_iff_ne]; omega
      rw [hX, HU.out]
      clear hX hlt hstep u3 u4 hY u2 hj hr HP
      go_wp2
      go_ret2
      exact ⟨by rw [HR.out] <;> rfl, hB⟩

set_option maxRecDepth 100000 in
set_option maxHeartbeats 4000000 in
theorem rwiden32_long (b : Nat) (hb2 : ¬ b < 4294967296) (w : World) :
    Calls Tryz.prog 21 #[.int .u64 b, .int .i64 32] w fun e w' => e = .returned (.tuple #[.int .u64 0, .int .i64 2]) ∧ Below w.heap.size w w' := by
  have hiw := fun W => rIsWidth_calls 32 W
  change ∀ W, Calls _ _ _ _ fun e w' => e = .returned (.bool true) ∧ _ at hiw
  obtain ⟨q, hq⟩ : ∃ q, b / 4294967296 = q := ⟨_, rfl⟩
  have hqd : (b : Int) / 4294967296 = (q : Int) := by omega
  have hq0 : ((q : Int) != 0) = true := by rw [bne_iff_ne]; omega
  clear hq hb2
  go_enter Tryz.func21, Tryz.ntmps21
  go_wp2_with fail
  refine (hiw _).mono ?_
  rintro e w1 ⟨rfl, rfl⟩
  go_wp2
  go_ret2
  exact ⟨rfl, Below.refl _ _⟩

set_option maxRecDepth 100000 in
set_option maxHeartbeats 4000000 in
theorem rwiden32_top (b : Nat) (hb2 : b < 4294967296) (he : b / 8388608 % 256 = 255) (w : World) :
    Calls Tryz.prog 21 #[.int .u64 b, .int .i64 32] w fun e w' => e = .returned (.tuple #[.int .u64 (widV f32 b : Nat), .int .i64 0]) ∧ Below w.heap.size w w' := by
  have hb : b < 18446744073709551616 := by omega
  have hiw := fun W => rIsWidth_calls 32 W
  change ∀ W, Calls _ _ _ _ fun e w' => e = .returned (.bool true) ∧ _ at hiw
  have hsz := rsizes32
  have hV : widV f32 b = widV f32 b := rfl
  conv at hV => rhs; unfold widV
  change widV f32 b = (if b / 8388608 % 256 = 255 then b / 2147483648 * C64 + 2047 * A64 + b % 8388608 * 536870912 else if b / 8388608 % 256 = 0 then (if b % 8388608 = 0 then b / 2147483648 * C64 else b / 2147483648 * C64 + (1024 - 127 - up f32 (b % 8388608)) * A64 + (b % 8388608 * 2 ^ up f32 (b % 8388608) - 8388608) * 536870912) else b / 2147483648 * C64 + (b / 8388608 % 256 + 1023 - 127) * A64 + b % 8388608 * 536870912) at hV
  have hq0 : (b : Int) / 4294967296 = 0 := by omega
  obtain ⟨s, hs⟩ : ∃ s, b / 2147483648 = s := ⟨_, rfl⟩
  have hsd : (b : Int) / 2147483648 = (s : Int) := by omega
  have hs2 : s < 2 := by omega
  obtain ⟨q, hq⟩ : ∃ q, b / 8388608 = q := ⟨_, rfl⟩
  have hqd : (b : Int) / 8388608 = (q : Int) := by omega
  have e1 := and_mask (x := q) (n := 8) (by omega) 255 (by decide) (by decide)
  have e2 := and_mask (x := b) (n := 23) hb (8388608 - 1) (by decide) (by decide)
  change _ = ((q % 256 : Nat) : Int) at e1
  change bits .and .u64 (b : Int) (8388607 : Int) = ((b % 8388608 : Nat) : Int) at e2
  rw [hq] at he hV
  rw [hs] at hV
  obtain ⟨e, hee⟩ : ∃ e, q % 256 = e := ⟨_, rfl⟩
  obtain ⟨f, hf⟩ : ∃ f, b % 8388608 = f := ⟨_, rfl⟩
  rw [hee] at he e1 hV
  rw [hf] at e2 hV
  have hfl : f < 8388608 := by omega
  have hel : e < 256 := by omega
  have hwe : IntKind.i64.wrap (e : Int) = (e : Int) := IntWalk.i64_in _ (by omega)
  obtain ⟨sv, hsv⟩ : ∃ v : Nat, s * 9223372036854775808 = v := ⟨_, rfl⟩
  have hsm : (s : Int) * 9223372036854775808 = (sv : Int) := by omega
  have hsw : IntKind.u64.wrap (sv : Int) = (sv : Int) := IntWalk.u64_in _ (by omega)
  subst he
  rw [if_pos rfl] at hV
  obtain ⟨fd, hfd⟩ : ∃ v : Nat, f * 536870912 = v := ⟨_, rfl⟩
  have hfm : (f : Int) * 536870912 = (fd : Int) := by omega
  have hfw : IntKind.u64.wrap (fd : Int) = (fd : Int) := IntWalk.u64_in _ (by omega)
  obtain ⟨v1, hv1⟩ : ∃ v : Nat, sv + 9218868437227405312 = v := ⟨_, rfl⟩
  obtain ⟨v2, hv2⟩ : ∃ v : Nat, v1 + fd = v := ⟨_, rfl⟩
  have k1 : (s * 2048 + 2047) * 4503599627370496 = v1 := by rw [kk1, hsv, hv1]
  have HR := hid (show widV f32 b = v2 by rw [hV, kk3, hsv, hv1, hfd, hv2])
  have g2 := or_add (a := s * 2048 + 2047) (b := fd) (n := 52) (by omega) (by omega)
  have g1 := or_add (a := s) (b := 9218868437227405312) (n := 63) (by decide) (by omega)
  change bits .or .u64 ((s * 9223372036854775808 : Nat) : Int) 9218868437227405312 = ((s * 9223372036854775808 + 9218868437227405312 : Nat) : Int) at g1
  rw [hsv, hv1] at g1
  change bits .or .u64 (((s * 2048 + 2047) * 4503599627370496 : Nat) : Int) (fd : Int) = (((s * 2048 + 2047) * 4503599627370496 + fd : Nat) : Int) at g2
  rw [k1, hv2] at g2
  clear hV hv1 hv2 hfd k1 hsv hf hee hq hs hfl hel hs2 hb hb2
  go_enter Tryz.func21, Tryz.ntmps21
  go_wp2_with fail
  refine (hiw _).mono ?_
  rintro e w1 ⟨rfl, rfl⟩
  go_wp2_with fail
  refine (hsz _).mono ?_
  rintro e w2 ⟨rfl, rfl⟩
  go_wp2
  go_quiet (fail)
  go_wp2
  go_ret2
  exact ⟨by rw [HR.out] <;> rfl, belowN (Below.refl _ _) _⟩

set_option maxRecDepth 100000 in
set_option maxHeartbeats 4000000 in
theorem rwiden32_zero (b : Nat) (hb2 : b < 4294967296) (he : b / 8388608 % 256 = 0) (hf0 : b % 8388608 = 0) (w : World) :
    Calls Tryz.prog 21 #[.int .u64 b, .int .i64 32] w fun e w' => e = .returned (.tuple #[.int .u64 (widV f32 b : Nat), .int .i64 0]) ∧ Below w.heap.size w w' := by
  have hb : b < 18446744073709551616 := by omega
  have hiw := fun W => rIsWidth_calls 32 W
  change ∀ W, Calls _ _ _ _ fun e w' => e = .returned (.bool true) ∧ _ at hiw
  have hsz := rsizes32
  have hV : widV f32 b = widV f32 b := rfl
  conv at hV => rhs; unfold widV
  change widV f32 b = (if b / 8388608 % 256 = 255 then b / 2147483648 * C64 + 2047 * A64 + b % 8388608 * 536870912 else if b / 8388608 % 256 = 0 then (if b % 8388608 = 0 then b / 2147483648 * C64 else b / 2147483648 * C64 + (1024 - 127 - up f32 (b % 8388608)) * A64 + (b % 8388608 * 2 ^ up f32 (b % 8388608) - 8388608) * 536870912) else b / 2147483648 * C64 + (b / 8388608 % 256 + 1023 - 127) * A64 + b % 8388608 * 536870912) at hV
  have hq0 : (b : Int) / 4294967296 = 0 := by omega
  obtain ⟨s, hs⟩ : ∃ s, b / 2147483648 = s := ⟨_, rfl⟩
  have hsd : (b : Int) / 2147483648 = (s : Int) := by omega
  have hs2 : s < 2 := by omega
  obtain ⟨q, hq⟩ : ∃ q, b / 8388608 = q := ⟨_, rfl⟩
  have hqd : (b : Int) / 8388608 = (q : Int) := by omega
  have e1 := and_mask (x := q) (n := 8) (by omega) 255 (by decide) (by decide)
  have e2 := and_mask (x := b) (n := 23) hb (8388608 - 1) (by decide) (by decide)
  change _ = ((q % 256 : Nat) : Int) at e1
  change bits .and .u64 (b : Int) (8388607 : Int) = ((b % 8388608 : Nat) : Int) at e2
  rw [hq] at he hV
  rw [hs] at hV
  obtain ⟨e, hee⟩ : ∃ e, q % 256 = e := ⟨_, rfl⟩
  obtain ⟨f, hf⟩ : ∃ f, b % 8388608 = f := ⟨_, rfl⟩
  rw [hee] at he e1 hV
  rw [hf] at e2 hV
  have hfl : f < 8388608 := by omega
  have hel : e < 256 := by omega
  have hwe : IntKind.i64.wrap (e : Int) = (e : Int) := IntWalk.i64_in _ (by omega)
  obtain ⟨sv, hsv⟩ : ∃ v : Nat, s * 9223372036854775808 = v := ⟨_, rfl⟩
  have hsm : (s : Int) * 9223372036854775808 = (sv : Int) := by omega
  have hsw : IntKind.u64.wrap (sv : Int) = (sv : Int) := IntWalk.u64_in _ (by omega)
  rw [hf] at hf0
  subst he
  subst hf0
  rw [if_neg (by decide), if_pos rfl, if_pos rfl] at hV
  change bits .and .u64 (q : Int) 255 = 0 at e1
  change bits .and .u64 (b : Int) 8388607 = 0 at e2
  have HR := hid (show widV f32 b = sv by rw [hV]; unfold C64; omega)
  clear hV hsv hf hee hq hs hfl hel hs2 hb hb2 hwe
  go_enter Tryz.func21, Tryz.ntmps21
  go_wp2_with fail
  refine (hiw _).mono ?_
  rintro e w1 ⟨rfl, rfl⟩
  go_wp2_with fail
  refine (hsz _).mono ?_
  rintro e w2 ⟨rfl, rfl⟩
  go_wp2
  go_quiet (fail)
  go_wp2
  go_ret2
  exact ⟨by rw [HR.out] <;> rfl, belowN (Below.refl _ _) _⟩

set_option maxRecDepth 100000 in
set_option maxHeartbeats 4000000 in
theorem rwiden32_main (b : Nat) (hb2 : b < 4294967296) (he : b / 8388608 % 256 ≠ 0 ∧ b / 8388608 % 256 ≠ 255) (w : World) :
    Calls Tryz.prog 21 #[.int .u64 b, .int .i64 32] w fun e w' => e = .returned (.tuple #[.int .u64 (widV f32 b : Nat), .int .i64 0]) ∧ Below w.heap.size w w' := by
  have hb : b < 18446744073709551616 := by omega
  have hiw := fun W => rIsWidth_calls 32 W
  change ∀ W, Calls _ _ _ _ fun e w' => e = .returned (.bool true) ∧ _ at hiw
  have hsz := rsizes32
  have hV : widV f32 b = widV f32 b := rfl
  conv at hV => rhs; unfold widV
  change widV f32 b = (if b / 8388608 % 256 = 255 then b / 2147483648 * C64 + 2047 * A64 + b % 8388608 * 536870912 else if b / 8388608 % 256 = 0 then (if b % 8388608 = 0 then b / 2147483648 * C64 else b / 2147483648 * C64 + (1024 - 127 - up f32 (b % 8388608)) * A64 + (b % 8388608 * 2 ^ up f32 (b % 8388608) - 8388608) * 536870912) else b / 2147483648 * C64 + (b / 8388608 % 256 + 1023 - 127) * A64 + b % 8388608 * 536870912) at hV
  have hq0 : (b : Int) / 4294967296 = 0 := by omega
  obtain ⟨s, hs⟩ : ∃ s, b / 2147483648 = s := ⟨_, rfl⟩
  have hsd : (b : Int) / 2147483648 = (s : Int) := by omega
  have hs2 : s < 2 := by omega
  obtain ⟨q, hq⟩ : ∃ q, b / 8388608 = q := ⟨_, rfl⟩
  have hqd : (b : Int) / 8388608 = (q : Int) := by omega
  have e1 := and_mask (x := q) (n := 8) (by omega) 255 (by decide) (by decide)
  have e2 := and_mask (x := b) (n := 23) hb (8388608 - 1) (by decide) (by decide)
  change _ = ((q % 256 : Nat) : Int) at e1
  change bits .and .u64 (b : Int) (8388607 : Int) = ((b % 8388608 : Nat) : Int) at e2
  rw [hq] at he hV
  rw [hs] at hV
  obtain ⟨e, hee⟩ : ∃ e, q % 256 = e := ⟨_, rfl⟩
  obtain ⟨f, hf⟩ : ∃ f, b % 8388608 = f := ⟨_, rfl⟩
  rw [hee] at he e1 hV
  rw [hf] at e2 hV
  have hfl : f < 8388608 := by omega
  have hel : e < 256 := by omega
  have hwe : IntKind.i64.wrap (e : Int) = (e : Int) := IntWalk.i64_in _ (by omega)
  obtain ⟨sv, hsv⟩ : ∃ v : Nat, s * 9223372036854775808 = v := ⟨_, rfl⟩
  have hsm : (s : Int) * 9223372036854775808 = (sv : Int) := by omega
  have hsw : IntKind.u64.wrap (sv : Int) = (sv : Int) := IntWalk.u64_in _ (by omega)
  rw [if_neg he.2, if_neg he.1] at hV
  have he1 : ((e : Int) == 255) = false := by rw [beq_eq_false_iff_ne]; omega
  have he2 : ((e : Int) == 0) = false := by rw [beq_eq_false_iff_ne]; omega
  obtain ⟨E, hE⟩ : ∃ v : Nat, e + 1023 - 127 = v := ⟨_, rfl⟩
  rw [hE] at hV
  obtain ⟨y1, hy1⟩ : ∃ y : Int, (e : Int) - 127 = y := ⟨_, rfl⟩
  have hy2 : y1 + 1023 = (E : Int) := by omega
  have hyw1 : IntKind.i64.wrap y1 = y1 := IntWalk.i64_in _ (by omega)
  have hyw2 : IntKind.i64.wrap (E : Int) = (E : Int) := IntWalk.i64_in _ (by omega)
  have hyw3 : IntKind.u64.wrap (E : Int) = (E : Int) := IntWalk.u64_in _ (by omega)
  obtain ⟨ev, hev⟩ : ∃ v : Nat, E * 4503599627370496 = v := ⟨_, rfl⟩
  have hem : (E : Int) * 4503599627370496 = (ev : Int) := by omega
  have hew : IntKind.u64.wrap (ev : Int) = (ev : Int) := IntWalk.u64_in _ (by omega)
  obtain ⟨fd, hfd⟩ : ∃ v : Nat, f * 536870912 = v := ⟨_, rfl⟩
  have hfm : (f : Int) * 536870912 = (fd : Int) := by omega
  have hfw : IntKind.u64.wrap (fd : Int) = (fd : Int) := IntWalk.u64_in _ (by omega)
  obtain ⟨v1, hv1⟩ : ∃ v : Nat, sv + ev = v := ⟨_, rfl⟩
  obtain ⟨v2, hv2⟩ : ∃ v : Nat, v1 + fd = v := ⟨_, rfl⟩
  have k1 : (s * 2048 + E) * 4503599627370496 = v1 := by rw [kk2, hsv, hev, hv1]
  have HR := hid (show widV f32 b = v2 by rw [hV, kk4, hsv, hev, hv1, hfd, hv2])
  have g2 := or_add (a := s * 2048 + E) (b := fd) (n := 52) (by omega) (by omega)
  have g1 := or_add (a := s) (b := ev) (n := 63) (by omega) (by omega)
  change bits .or .u64 ((s * 9223372036854775808 : Nat) : Int) (ev : Int) = ((s * 9223372036854775808 + ev : Nat) : Int) at g1
  rw [hsv, hv1] at g1
  change bits .or .u64 (((s * 2048 + E) * 4503599627370496 : Nat) : Int) (fd : Int) = (((s * 2048 + E) * 4503599627370496 + fd : Nat) : Int) at g2
  rw [k1, hv2] at g2
  clear hV hv1 hv2 hfd k1 hsv hf hee hq hs hfl hel hs2 hb hb2 hev hE he
  go_enter Tryz.func21, Tryz.ntmps21
  go_wp2_with fail
  refine (hiw _).mono ?_
  rintro e w1 ⟨rfl, rfl⟩
  go_wp2_with fail
  refine (hsz _).mono ?_
  rintro e w2 ⟨rfl, rfl⟩
  go_wp2
  go_quiet (fail)
  go_wp2
  go_ret2
  exact ⟨by rw [HR.out] <;> rfl, belowN (Below.refl _ _) _⟩

set_option maxRecDepth 100000 in
set_option maxHeartbeats 4000000 in
theorem rwiden32_sub (b : Nat) (hb2 : b < 4294967296) (he : b / 8388608 % 256 = 0) (hf0 : b % 8388608 ≠ 0) (w : World) :
    Calls Tryz.prog 21 #[.int .u64 b, .int .i64 32] w fun e w' => e = .returned (.tuple #[.int .u64 (widV f32 b : Nat), .int .i64 0]) ∧ Below w.heap.size w w' := by
  have hb : b < 18446744073709551616 := by omega
  have hiw := fun W => rIsWidth_calls 32 W
  change ∀ W, Calls _ _ _ _ fun e w' => e = .returned (.bool true) ∧ _ at hiw
  have hsz := rsizes32
  have hV : widV f32 b = widV f32 b := rfl
  conv at hV => rhs; unfold widV
  change widV f32 b = (if b / 8388608 % 256 = 255 then b / 2147483648 * C64 + 2047 * A64 + b % 8388608 * 536870912 else if b / 8388608 % 256 = 0 then (if b % 8388608 = 0 then b / 2147483648 * C64 else b / 2147483648 * C64 + (1024 - 127 - up f32 (b % 8388608)) * A64 + (b % 8388608 * 2 ^ up f32 (b % 8388608) - 8388608) * 536870912) else b / 2147483648 * C64 + (b / 8388608 % 256 + 1023 - 127) * A64 + b % 8388608 * 536870912) at hV
  have hq0 : (b : Int) / 4294967296 = 0 := by omega
  obtain ⟨s, hs⟩ : ∃ s, b / 2147483648 = s := ⟨_, rfl⟩
  have hsd : (b : Int) / 2147483648 = (s : Int) := by omega
  have hs2 : s < 2 := by omega
  obtain ⟨q, hq⟩ : ∃ q, b / 8388608 = q := ⟨_, rfl⟩
  have hqd : (b : Int) / 8388608 = (q : Int) := by omega
  have e1 := and_mask (x := q) (n := 8) (by omega) 255 (by decide) (by decide)
  have e2 := and_mask (x := b) (n := 23) hb (8388608 - 1) (by decide) (by decide)
  change _ = ((q % 256 : Nat) : Int) at e1
  change bits .and .u64 (b : Int) (8388607 : Int) = ((b % 8388608 : Nat) : Int) at e2
  rw [hq] at he hV
  rw [hs] at hV
  obtain ⟨e, hee⟩ : ∃ e, q % 256 = e := ⟨_, rfl⟩
  obtain ⟨f, hf⟩ : ∃ f, b % 8388608 = f := ⟨_, rfl⟩
  rw [hee] at he e1 hV
  rw [hf] at e2 hV
  have hfl : f < 8388608 := by omega
  have hel : e < 256 := by omega
  have hwe : IntKind.i64.wrap (e : Int) = (e : Int) := IntWalk.i64_in _ (by omega)
  obtain ⟨sv, hsv⟩ : ∃ v : Nat, s * 9223372036854775808 = v := ⟨_, rfl⟩
  have hsm : (s : Int) * 9223372036854775808 = (sv : Int) := by omega
  have hsw : IntKind.u64.wrap (sv : Int) = (sv : Int) := IntWalk.u64_in _ (by omega)
  rw [hf] at hf0
  subst he
  rw [if_neg (by decide), if_pos rfl, if_neg hf0] at hV
  change bits .and .u64 (q : Int) 255 = 0 at e1
  obtain ⟨u1, u2, u3, u4⟩ := up_spec f32 (by first | exact .inl rfl | exact .inr rfl) hf0 hfl
  change up f32 f ≤ 23 at u2
  change 8388608 ≤ f * 2 ^ up f32 f at u3
  change f * 2 ^ up f32 f < 2 * 8388608 at u4
  obtain ⟨U, hUe⟩ : ∃ U, up f32 f = U := ⟨_, rfl⟩
  rw [hUe] at u1 u2 u3 u4 hV
  have hf0b : ((f : Int) == 0) = false := by rw [beq_eq_false_iff_ne]; omega
  obtain ⟨Y, hY⟩ : ∃ v : Nat, f * 2 ^ U = v := ⟨_, rfl⟩
  have hstep : ∀ j, j < U → f * 2 ^ j < 8388608 := by
    intro j hj
    have h1 : f * 2 ^ (j + 1) ≤ f * 2 ^ U := Nat.mul_le_mul_left _ (pow_le hj)
    rw [Nat.pow_succ, ← Nat.mul_assoc] at h1
    omega
  rw [hY] at u3 u4 hV
  obtain ⟨g, hg⟩ : ∃ v : Nat, Y - 8388608 = v := ⟨_, rfl⟩
  have hgi : (Y : Int) - 8388608 = (g : Int) := by omega
  have hgw : IntKind.u64.wrap (g : Int) = (g : Int) := IntWalk.u64_in _ (by omega)
  rw [hg] at hV
  obtain ⟨E, hE⟩ : ∃ v : Nat, 1024 - 127 - U = v := ⟨_, rfl⟩
  rw [hE] at hV
  obtain ⟨ye, hye⟩ : ∃ y : Int, 1 - (U : Int) = y := ⟨_, rfl⟩
  obtain ⟨y1, hy1⟩ : ∃ y : Int, ye - 127 = y := ⟨_, rfl⟩
  have hy2 : y1 + 1023 = (E : Int) := by omega
  have hyw1 : IntKind.i64.wrap y1 = y1 := IntWalk.i64_in _ (by omega)
  have hyw2 : IntKind.i64.wrap (E : Int) = (E : Int) := IntWalk.i64_in _ (by omega)
  have hyw3 : IntKind.u64.wrap (E : Int) = (E : Int) := IntWalk.u64_in _ (by omega)
  obtain ⟨ev, hev⟩ : ∃ v : Nat, E * 4503599627370496 = v := ⟨_, rfl⟩
  have hem : (E : Int) * 4503599627370496 = (ev : Int) := by omega
  have hew : IntKind.u64.wrap (ev : Int) = (ev : Int) := IntWalk.u64_in _ (by omega)
  obtain ⟨fd, hfd⟩ : ∃ v : Nat, g * 536870912 = v := ⟨_, rfl⟩
  have hfm : (g : Int) * 536870912 = (fd : Int) := by omega
  have hfw : IntKind.u64.wrap (fd : Int) = (fd : Int) := IntWalk.u64_in _ (by omega)
  obtain ⟨v1, hv1⟩ : ∃ v : Nat, sv + ev = v := ⟨_, rfl⟩
  obtain ⟨v2, hv2⟩ : ∃ v : Nat, v1 + fd = v := ⟨_, rfl⟩
  have k1 : (s * 2048 + E) * 4503599627370496 = v1 := by rw [kk2, hsv, hev, hv1]
  have HR := hid (show widV f32 b = v2 by rw [hV, kk4, hsv, hev, hv1, hfd, hv2])
  have g2 := or_add (a := s * 2048 + E) (b := fd) (n := 52) (by omega) (by omega)
  have g1 := or_add (a := s) (b := ev) (n := 63) (by omega) (by omega)
  change bits .or .u64 ((s * 9223372036854775808 : Nat) : Int) (ev : Int) = ((s * 9223372036854775808 + ev : Nat) : Int) at g1
  rw [hsv, hv1] at g1
  change bits .or .u64 (((s * 2048 + E) * 4503599627370496 : Nat) : Int) (fd : Int) = (((s * 2048 + E) * 4503599627370496 + fd : Nat) : Int) at g2
  rw [k1, hv2] at g2
  have HP := hid (And.intro hstep (And.intro u3 (And.intro u4 (And.intro hY u2))))
  have HU := hid hye
  clear hV hv1 hv2 hfd k1 hsv hf hee hq hs hel hs2 hb hb2 hev hE u1 u2 u3 u4 hg hY hUe hstep hye hwe hf0 hfl
  go_enter Tryz.func21, Tryz.ntmps21
  go_wp2_with fail
  refine (hiw _).mono ?_
  rintro e w1 ⟨rfl, rfl⟩
  go_wp2_with fail
  refine (hsz _).mono ?_
  rintro e w2 ⟨rfl, rfl⟩
  go_wp2
  go_quiet (fail)
  go_wp2
  have hWq : Below w.heap.size w (w.drewN nq) := belowN (Below.refl _ _) nq
  generalize w.drewN nq = Z1 at *
  go_loopw [9, 10] (fun v1 v2 wq => ∃ (j : Nat), j ≤ U ∧ v1 = .int .i64 (1 - (j : Int)) ∧ v2 = .int .u64 (f * 2 ^ j : Nat) ∧ Below w.heap.size w wq) (fun v1 _ _ => U - (1 - intOf v1).toNat)
  case atStart => exact ⟨0, Nat.zero_le _, rfl, by rw [Nat.pow_zero, Nat.mul_one], hWq⟩
  case round =>
    obtain ⟨j, hj, rfl, rfl, hB⟩ := hrel
    obtain ⟨hstep, u3, u4, hY, u2⟩ := HP.out
    obtain ⟨X, hX⟩ : ∃ v, f * 2 ^ j = v := ⟨_, rfl⟩
    by_cases hlt : X < 8388608
    · have hjU : j < U := by
        rcases Nat.lt_or_ge j U with h | h
        · exact h
        · obtain rfl : j = U := by omega
          omega
      have hX0 : (X : Int) / 8388608 = 0 := by omega
      obtain ⟨X2, hX2⟩ : ∃ v, f * 2 ^ (j + 1) = v := ⟨_, rfl⟩
      have hXX : 2 * (X : Int) = (X2 : Int) := by rw [← hX2, Nat.pow_succ, ← Nat.mul_assoc, hX]; omega
      have hXw : IntKind.u64.wrap (X2 : Int) = (X2 : Int) := IntWalk.u64_in _ (by omega)
      obtain ⟨a1, ha1⟩ : ∃ y : Int, 1 - (j : Int) = y := ⟨_, rfl⟩
      obtain ⟨a2, ha2⟩ : ∃ y : Int, a1 - 1 = y := ⟨_, rfl⟩
      have haw : IntKind.i64.wrap a2 = a2 := IntWalk.i64_in _ (by omega)
      rw [hX, ha1]
      have HX := hid (And.intro hX2 (And.intro hjU (And.intro ha1 ha2)))
      clear hX hX2 hlt hstep u3 u4 hY u2 hj hjU ha1
      go_wp2
      go_roundw
      case rel =>
        obtain ⟨k1, k2, k3, k4⟩ := HX.out
        refine ⟨j + 1, k2, ?_, by rw [k1], hB⟩
        congr 1
        omega
      case measure =>
        obtain ⟨k1, k2, k3, k4⟩ := HX.out
        simp [intOf]; omega
    · have hjU : j = U := by
        rcases Nat.lt_or_ge j U with h | h
        · exact absurd (hX ▸ hstep j h) hlt
        · omega
      subst hjU
      obtain rfl : X = Y := by rw [← hX, ← hY]
      obtain ⟨r, hr⟩ : ∃ r : Nat, X / 8388608 = r := ⟨_, rfl⟩
      have hri : (X : Int) / 8388608 = (r : Int) := by omega
      have hr0 : ((r : Int) == 0) = false := by rw [beq_eq_false_iff_ne]; omega
      rw [hX, HU.out]
      clear hX hlt hstep u3 u4 hY u2 hj hr HP
      go_wp2
      go_ret2
      exact ⟨by rw [HR.out] <;> rfl, hB⟩

theorem rWiden_calls (b : Nat) (_hb : b < 18446744073709551616) (x : Int) (w : World) :
    Calls Tryz.prog 21 #[.int .u64 b, .int .i64 x] w fun e w' => e = .returned (.tuple #[.int .u64 (widS b x : Nat), .int .i64 (widE b x)]) ∧ Below w.heap.size w w' := by
  cases hx : isW x with
  | false =>
    have h := rwiden_none b x hx w
    unfold isW at hx
    rw [Bool.or_eq_false_iff, Bool.or_eq_false_iff, decide_eq_false_iff_not, decide_eq_false_iff_not, decide_eq_false_iff_not] at hx
    have h1 : widS b x = 0 ∧ widE b x = 2 := by
      unfold widS widE fmOf
      rw [if_neg hx.2.2, if_neg hx.2.2, if_neg hx.1, if_neg hx.2.1]; exact ⟨rfl, rfl⟩
    rw [h1.1, h1.2]
    exact h
  | true =>
    rcases isW_cases hx with rfl | rfl | rfl
    · have s1 : widS b 16 = if b < 65536 then widV f16 b else 0 := rfl
      have s2 : widE b 16 = if b < 65536 then 0 else 2 := rfl
      by_cases h : b < 65536
      · rw [s1, s2, if_pos h, if_pos h]
        by_cases h1 : b / 1024 % 32 = 31
        · exact rwiden16_top b h h1 w
        · by_cases h2 : b / 1024 % 32 = 0
          · by_cases h3 : b % 1024 = 0
            · exact rwiden16_zero b h h2 h3 w
            · exact rwiden16_sub b h h2 h3 w
          · exact rwiden16_main b h ⟨h2, h1⟩ w
      · rw [s1, s2, if_neg h, if_neg h]; exact rwiden16_long b h w
    · have s1 : widS b 32 = if b < 4294967296 then widV f32 b else 0 := rfl
      have s2 : widE b 32 = if b < 4294967296 then 0 else 2 := rfl
      by_cases h : b < 4294967296
      · rw [s1, s2, if_pos h, if_pos h]
        by_cases h1 : b / 8388608 % 256 = 255
        · exact rwiden32_top b h h1 w
        · by_cases h2 : b / 8388608 % 256 = 0
          · by_cases h3 : b % 8388608 = 0
            · exact rwiden32_zero b h h2 h3 w
            · exact rwiden32_sub b h h2 h3 w
          · exact rwiden32_main b h ⟨h2, h1⟩ w
      · rw [s1, s2, if_neg h, if_neg h]; exact rwiden32_long b h w
    · exact rwiden_64 b w
end Go.Proofs.YtfobaeoccpebeaaGreatDoor

/- The reference's Narrow, Least (targumref05): walked. -/
namespace Go.Proofs.YtfobaeoccpebeaaGreatDoor
open Go.RowKit Go.Shelf
attribute [local go_sem] Oper.semAt_some

set_option maxRecDepth 100000 in
set_option maxHeartbeats 4000000 in
theorem rnarrow_none (b : Nat) (x : Int) (hx : isW x = false) (w : World) :
    Calls Tryz.prog 22 #[.int .u64 b, .int .i64 x] w fun e w' => e = .returned (.tuple #[.int .u64 0, .bool false]) ∧ Below w.heap.size w w' := by
  have hiw := fun W => rIsWidth_calls x W
  rw [hx] at hiw
  go_enter Tryz.func22, Tryz.ntmps22
  go_wp2_with fail
  refine (hiw _).mono ?_
  rintro e w1 ⟨rfl, rfl⟩
  go_wp2
  go_ret2
  exact ⟨rfl, Below.refl _ _⟩
theorem rnarrow_64 (b : Nat) (w : World) :
    Calls Tryz.prog 22 #[.int .u64 b, .int .i64 64] w fun e w' => e = .returned (.tuple #[.int .u64 b, .bool true]) ∧ Below w.heap.size w w' := by
  have hiw := fun W => rIsWidth_calls 64 W
  change ∀ W, Calls _ _ _ _ fun e w' => e = .returned (.bool true) ∧ _ at hiw
  go_enter Tryz.func22, Tryz.ntmps22
  go_wp2_with fail
  refine (hiw _).mono ?_
  rintro e w1 ⟨rfl, rfl⟩
  go_wp2
  go_ret2
  exact ⟨rfl, Below.refl _ _⟩

theorem kt16 (s : Nat) : (s * 32 + 31) * 1024 = s * 32768 + 31744 := by omega
theorem ke16 (s E : Nat) : (s * 32 + E) * 1024 = s * 32768 + E * 1024 := by omega

set_option maxRecDepth 100000 in
set_option maxHeartbeats 4000000 in
theorem rnarrow16_top_ok (x : Nat) (hx : x < 18446744073709551616) (he : x / 4503599627370496 % 2048 = 2047) (h9 : widV f16 (rnO f16 x) = x) (w : World) :
    Calls Tryz.prog 22 #[.int .u64 x, .int .i64 16] w fun e w' => e = .returned (.tuple #[.int .u64 (rnO f16 x : Nat), .bool true]) ∧ Below w.heap.size w w' := by
  have hiw := fun W => rIsWidth_calls 16 W
  change ∀ W, Calls _ _ _ _ fun e w' => e = .returned (.bool true) ∧ _ at hiw
  have hsz := rsizes16
  have hrl : rnO f16 x < 65536 := rnO_lt f16 (by first | exact .inl rfl | exact .inr rfl) hx
  have hO : rnO f16 x = rnO f16 x := rfl
  conv at hO => rhs; unfold rnO
  change rnO f16 x = (if x / 4503599627370496 % 2048 = 2047 then x / 9223372036854775808 * 32768 + 31 * 1024 + x % 4503599627370496 / 4398046511104
    else if 1023 < x / 4503599627370496 % 2048 + 15 ∧ x / 4503599627370496 % 2048 + 15 < 1023 + 32 - 1 then x / 9223372036854775808 * 32768 + (x / 4503599627370496 % 2048 + 15 - 1023) * 1024 + x % 4503599627370496 / 4398046511104
    else if 0 < x / 4503599627370496 % 2048 ∧ x / 4503599627370496 % 2048 + 15 ≤ 1023 ∧ 1023 < x / 4503599627370496 % 2048 + 15 + 10 then x / 9223372036854775808 * 32768 + (x % 4503599627370496 + 4503599627370496) / (4398046511104 * 2 ^ (1024 - 15 - x / 4503599627370496 % 2048))
    else x / 9223372036854775808 * 32768) at hO
  have hwd := fun W => rWiden_calls (rnO f16 x) (by omega) 16 W
  rw [show widS (rnO f16 x) 16 = widV f16 (rnO f16 x) from if_pos hrl] at hwd
  obtain ⟨we, hwe2⟩ : ∃ v, widE (rnO f16 x) 16 = v := ⟨_, rfl⟩
  rw [hwe2] at hwd
  clear hwe2 hrl
  obtain ⟨s, hs⟩ : ∃ s, x / 9223372036854775808 = s := ⟨_, rfl⟩
  have hsd : (x : Int) / 9223372036854775808 = (s : Int) := by omega
  have hs2 : s < 2 := by omega
  obtain ⟨q, hq⟩ : ∃ q, x / 4503599627370496 = q := ⟨_, rfl⟩
  have hqd : (x : Int) / 4503599627370496 = (q : Int) := by omega
  have e1 := and_mask (x := q) (n := 11) (by omega) 2047 (by decide) (by decide)
  have e2 := and_mask (x := x) (n := 52) hx 4503599627370495 (by decide) (by decide)
  change _ = ((q % 2048 : Nat) : Int) at e1
  change _ = ((x % 4503599627370496 : Nat) : Int) at e2
  rw [hq] at he hO
  rw [hs] at hO
  obtain ⟨e, hee⟩ : ∃ e, q % 2048 = e := ⟨_, rfl⟩
  obtain ⟨f, hf⟩ : ∃ f, x % 4503599627370496 = f := ⟨_, rfl⟩
  rw [hee] at he e1 hO
  rw [hf] at e2 hO
  have hfl : f < 4503599627370496 := by omega
  have hel : e < 2048 := by omega
  have hwe : IntKind.i64.wrap (e : Int) = (e : Int) := IntWalk.i64_in _ (by omega)
  obtain ⟨sv, hsv⟩ : ∃ v : Nat, s * 32768 = v := ⟨_, rfl⟩
  have hsm : (s : Int) * 32768 = (sv : Int) := by omega
  have hsw : IntKind.u64.wrap (sv : Int) = (sv : Int) := IntWalk.u64_in _ (by omega)
  rw [h9] at hwd
  subst he
  rw [if_pos rfl] at hO
  obtain ⟨g, hg⟩ : ∃ v : Nat, f / 4398046511104 = v := ⟨_, rfl⟩
  have hgi : (f : Int) / 4398046511104 = (g : Int) := by omega
  obtain ⟨v1, hv1⟩ : ∃ v : Nat, sv + 31744 = v := ⟨_, rfl⟩
  obtain ⟨r, hr2⟩ : ∃ v : Nat, v1 + g = v := ⟨_, rfl⟩
  have k1 : (s * 32 + 31) * 1024 = v1 := by rw [kt16, hsv, hv1]
  have hr : rnO f16 x = r := by rw [hO, hsv, hg, ← hr2, ← hv1] <;> rfl
  have g2 := or_add (a := s * 32 + 31) (b := g) (n := 10) (by omega) (by omega)
  have g1 := or_add (a := s) (b := 31744) (n := 15) (by decide) (by omega)
  change bits .or .u64 ((s * 32768 : Nat) : Int) 31744 = ((s * 32768 + 31744 : Nat) : Int) at g1
  rw [hsv, hv1] at g1
  change bits .or .u64 (((s * 32 + 31) * 1024 : Nat) : Int) (g : Int) = (((s * 32 + 31) * 1024 + g : Nat) : Int) at g2
  rw [k1, hr2] at g2
  rw [hr] at hwd ⊢
  clear hO hr hr2 hv1 k1 hg hsv hf hee hq hs hfl hel hs2 hx
  go_enter Tryz.func22, Tryz.ntmps22
  go_wp2_with fail
  refine (hiw _).mono ?_
  rintro e w1 ⟨rfl, rfl⟩
  go_wp2_with fail
  refine (hsz _).mono ?_
  rintro e w2 ⟨rfl, rfl⟩
  go_wp2
  go_quiet (fail)
  have hWq : Below w.heap.size w (w.drewN nq) := belowN (Below.refl _ _) nq
  generalize w.drewN nq = Z1 at *
  go_wp2_with fail
  refine (hwd _).mono ?_
  rintro e w3 ⟨rfl, hb3⟩
  have hW3 := hWq.trans (hb3.mono hWq.size)
  go_wp2
  go_ret2
  exact ⟨rfl, hW3⟩

set_option maxRecDepth 100000 in
set_option maxHeartbeats 4000000 in
theorem rnarrow16_main_ok (x : Nat) (hx : x < 18446744073709551616) (he : x / 4503599627370496 % 2048 ≠ 2047 ∧ 1023 < x / 4503599627370496 % 2048 + 15 ∧ x / 4503599627370496 % 2048 + 15 < 1023 + 32 - 1) (h9 : widV f16 (rnO f16 x) = x) (w : World) :
    Calls Tryz.prog 22 #[.int .u64 x, .int .i64 16] w fun e w' => e = .returned (.tuple #[.int .u64 (rnO f16 x : Nat), .bool true]) ∧ Below w.heap.size w w' := by
  have hiw := fun W => rIsWidth_calls 16 W
  change ∀ W, Calls _ _ _ _ fun e w' => e = .returned (.bool true) ∧ _ at hiw
  have hsz := rsizes16
  have hrl : rnO f16 x < 65536 := rnO_lt f16 (by first | exact .inl rfl | exact .inr rfl) hx
  have hO : rnO f16 x = rnO f16 x := rfl
  conv at hO => rhs; unfold rnO
  change rnO f16 x = (if x / 4503599627370496 % 2048 = 2047 then x / 9223372036854775808 * 32768 + 31 * 1024 + x % 4503599627370496 / 4398046511104
    else if 1023 < x / 4503599627370496 % 2048 + 15 ∧ x / 4503599627370496 % 2048 + 15 < 1023 + 32 - 1 then x / 9223372036854775808 * 32768 + (x / 4503599627370496 % 2048 + 15 - 1023) * 1024 + x % 4503599627370496 / 4398046511104
    else if 0 < x / 4503599627370496 % 2048 ∧ x / 4503599627370496 % 2048 + 15 ≤ 1023 ∧ 1023 < x / 4503599627370496 % 2048 + 15 + 10 then x / 9223372036854775808 * 32768 + (x % 4503599627370496 + 4503599627370496) / (4398046511104 * 2 ^ (1024 - 15 - x / 4503599627370496 % 2048))
    else x / 9223372036854775808 * 32768) at hO
  have hwd := fun W => rWiden_calls (rnO f16 x) (by omega) 16 W
  rw [show widS (rnO f16 x) 16 = widV f16 (rnO f16 x) from if_pos hrl] at hwd
  obtain ⟨we, hwe2⟩ : ∃ v, widE (rnO f16 x) 16 = v := ⟨_, rfl⟩
  rw [hwe2] at hwd
  clear hwe2 hrl
  obtain ⟨s, hs⟩ : ∃ s, x / 9223372036854775808 = s := ⟨_, rfl⟩
  have hsd : (x : Int) / 9223372036854775808 = (s : Int) := by omega
  have hs2 : s < 2 := by omega
  obtain ⟨q, hq⟩ : ∃ q, x / 4503599627370496 = q := ⟨_, rfl⟩
  have hqd : (x : Int) / 4503599627370496 = (q : Int) := by omega
  have e1 := and_mask (x := q) (n := 11) (by omega) 2047 (by decide) (by decide)
  have e2 := and_mask (x := x) (n := 52) hx 4503599627370495 (by decide) (by decide)
  change _ = ((q % 2048 : Nat) : Int) at e1
  change _ = ((x % 4503599627370496 : Nat) : Int) at e2
  rw [hq] at he hO
  rw [hs] at hO
  obtain ⟨e, hee⟩ : ∃ e, q % 2048 = e := ⟨_, rfl⟩
  obtain ⟨f, hf⟩ : ∃ f, x % 4503599627370496 = f := ⟨_, rfl⟩
  rw [hee] at he e1 hO
  rw [hf] at e2 hO
  have hfl : f < 4503599627370496 := by omega
  have hel : e < 2048 := by omega
  have hwe : IntKind.i64.wrap (e : Int) = (e : Int) := IntWalk.i64_in _ (by omega)
  obtain ⟨sv, hsv⟩ : ∃ v : Nat, s * 32768 = v := ⟨_, rfl⟩
  have hsm : (s : Int) * 32768 = (sv : Int) := by omega
  have hsw : IntKind.u64.wrap (sv : Int) = (sv : Int) := IntWalk.u64_in _ (by omega)
  rw [h9] at hwd
  obtain ⟨he1, he2, he3⟩ := he
  rw [if_neg he1, if_pos ⟨he2, he3⟩] at hO
  have heb : ((e : Int) == 2047) = false := by rw [beq_eq_false_iff_ne]; omega
  obtain ⟨E, hE⟩ : ∃ v : Nat, e + 15 - 1023 = v := ⟨_, rfl⟩
  rw [hE] at hO
  obtain ⟨y1, hy1⟩ : ∃ y : Int, (e : Int) - 1023 = y := ⟨_, rfl⟩
  have hy2 : y1 + 15 = (E : Int) := by omega
  have hyw1 : IntKind.i64.wrap y1 = y1 := IntWalk.i64_in _ (by omega)
  have hyw2 : IntKind.i64.wrap (E : Int) = (E : Int) := IntWalk.i64_in _ (by omega)
  have hyw3 : IntKind.u64.wrap (E : Int) = (E : Int) := IntWalk.u64_in _ (by omega)
  have hgt : (0 : Int) < (E : Int) := by omega
  have hlt : (E : Int) < 31 := by omega
  obtain ⟨ev, hev⟩ : ∃ v : Nat, E * 1024 = v := ⟨_, rfl⟩
  have hem : (E : Int) * 1024 = (ev : Int) := by omega
  have hew : IntKind.u64.wrap (ev : Int) = (ev : Int) := IntWalk.u64_in _ (by omega)
  obtain ⟨g, hg⟩ : ∃ v : Nat, f / 4398046511104 = v := ⟨_, rfl⟩
  have hgi : (f : Int) / 4398046511104 = (g : Int) := by omega
  obtain ⟨v1, hv1⟩ : ∃ v : Nat, sv + ev = v := ⟨_, rfl⟩
  obtain ⟨r, hr2⟩ : ∃ v : Nat, v1 + g = v := ⟨_, rfl⟩
  have k1 : (s * 32 + E) * 1024 = v1 := by rw [ke16, hsv, hev, hv1]
  have hr : rnO f16 x = r := by rw [hO, hsv, hev, hg, hv1, hr2]
  have g2 := or_add (a := s * 32 + E) (b := g) (n := 10) (by omega) (by omega)
  have g1 := or_add (a := s) (b := ev) (n := 15) (by omega) (by omega)
  change bits .or .u64 ((s * 32768 : Nat) : Int) (ev : Int) = ((s * 32768 + ev : Nat) : Int) at g1
  rw [hsv, hv1] at g1
  change bits .or .u64 (((s * 32 + E) * 1024 : Nat) : Int) (g : Int) = (((s * 32 + E) * 1024 + g : Nat) : Int) at g2
  rw [k1, hr2] at g2
  rw [hr] at hwd ⊢
  clear hO hr hr2 hv1 k1 hg hsv hf hee hq hs hfl hel hs2 hx hev hE he1 he2 he3
  go_enter Tryz.func22, Tryz.ntmps22
  go_wp2_with fail
  refine (hiw _).mono ?_
  rintro e w1 ⟨rfl, rfl⟩
  go_wp2_with fail
  refine (hsz _).mono ?_
  rintro e w2 ⟨rfl, rfl⟩
  go_wp2
  go_quiet (fail)
  have hWq : Below w.heap.size w (w.drewN nq) := belowN (Below.refl _ _) nq
  generalize w.drewN nq = Z1 at *
  go_wp2_with fail
  refine (hwd _).mono ?_
  rintro e w3 ⟨rfl, hb3⟩
  have hW3 := hWq.trans (hb3.mono hWq.size)
  go_wp2
  go_ret2
  exact ⟨rfl, hW3⟩

set_option maxRecDepth 100000 in
set_option maxHeartbeats 4000000 in
theorem rnarrow16_sub_ok (x : Nat) (hx : x < 18446744073709551616) (he : x / 4503599627370496 % 2048 ≠ 2047 ∧ 0 < x / 4503599627370496 % 2048 ∧ x / 4503599627370496 % 2048 + 15 ≤ 1023 ∧ 1023 < x / 4503599627370496 % 2048 + 15 + 10) (h9 : widV f16 (rnO f16 x) = x) (w : World) :
    Calls Tryz.prog 22 #[.int .u64 x, .int .i64 16] w fun e w' => e = .returned (.tuple #[.int .u64 (rnO f16 x : Nat), .bool true]) ∧ Below w.heap.size w w' := by
  have hiw := fun W => rIsWidth_calls 16 W
  change ∀ W, Calls _ _ _ _ fun e w' => e = .returned (.bool true) ∧ _ at hiw
  have hsz := rsizes16
  have hrl : rnO f16 x < 65536 := rnO_lt f16 (by first | exact .inl rfl | exact .inr rfl) hx
  have hO : rnO f16 x = rnO f16 x := rfl
  conv at hO => rhs; unfold rnO
  change rnO f16 x = (if x / 4503599627370496 % 2048 = 2047 then x / 9223372036854775808 * 32768 + 31 * 1024 + x % 4503599627370496 / 4398046511104
    else if 1023 < x / 4503599627370496 % 2048 + 15 ∧ x / 4503599627370496 % 2048 + 15 < 1023 + 32 - 1 then x / 9223372036854775808 * 32768 + (x / 4503599627370496 % 2048 + 15 - 1023) * 1024 + x % 4503599627370496 / 4398046511104
    else if 0 < x / 4503599627370496 % 2048 ∧ x / 4503599627370496 % 2048 + 15 ≤ 1023 ∧ 1023 < x / 4503599627370496 % 2048 + 15 + 10 then x / 9223372036854775808 * 32768 + (x % 4503599627370496 + 4503599627370496) / (4398046511104 * 2 ^ (1024 - 15 - x / 4503599627370496 % 2048))
    else x / 9223372036854775808 * 32768) at hO
  have hwd := fun W => rWiden_calls (rnO f16 x) (by omega) 16 W
  rw [show widS (rnO f16 x) 16 = widV f16 (rnO f16 x) from if_pos hrl] at hwd
  obtain ⟨we, hwe2⟩ : ∃ v, widE (rnO f16 x) 16 = v := ⟨_, rfl⟩
  rw [hwe2] at hwd
  clear hwe2 hrl
  obtain ⟨s, hs⟩ : ∃ s, x / 9223372036854775808 = s := ⟨_, rfl⟩
  have hsd : (x : Int) / 9223372036854775808 = (s : Int) := by omega
  have hs2 : s < 2 := by omega
  obtain ⟨q, hq⟩ : ∃ q, x / 4503599627370496 = q := ⟨_, rfl⟩
  have hqd : (x : Int) / 4503599627370496 = (q : Int) := by omega
  have e1 := and_mask (x := q) (n := 11) (by omega) 2047 (by decide) (by decide)
  have e2 := and_mask (x := x) (n := 52) hx 4503599627370495 (by decide) (by decide)
  change _ = ((q % 2048 : Nat) : Int) at e1
  change _ = ((x % 4503599627370496 : Nat) : Int) at e2
  rw [hq] at he hO
  rw [hs] at hO
  obtain ⟨e, hee⟩ : ∃ e, q % 2048 = e := ⟨_, rfl⟩
  obtain ⟨f, hf⟩ : ∃ f, x % 4503599627370496 = f := ⟨_, rfl⟩
  rw [hee] at he e1 hO
  rw [hf] at e2 hO
  have hfl : f < 4503599627370496 := by omega
  have hel : e < 2048 := by omega
  have hwe : IntKind.i64.wrap (e : Int) = (e : Int) := IntWalk.i64_in _ (by omega)
  obtain ⟨sv, hsv⟩ : ∃ v : Nat, s * 32768 = v := ⟨_, rfl⟩
  have hsm : (s : Int) * 32768 = (sv : Int) := by omega
  have hsw : IntKind.u64.wrap (sv : Int) = (sv : Int) := IntWalk.u64_in _ (by omega)
  rw [h9] at hwd
  obtain ⟨he1, he2, he3, he4⟩ := he
  rw [if_neg he1, if_neg (by omega), if_pos ⟨he2, he3, he4⟩] at hO
  have heb : ((e : Int) == 2047) = false := by rw [beq_eq_false_iff_ne]; omega
  obtain ⟨y1, hy1⟩ : ∃ y : Int, (e : Int) - 1023 = y := ⟨_, rfl⟩
  obtain ⟨y2, hy2⟩ : ∃ y : Int, y1 + 15 = y := ⟨_, rfl⟩
  have hyw1 : IntKind.i64.wrap y1 = y1 := IntWalk.i64_in _ (by omega)
  have hyw2 : IntKind.i64.wrap y2 = y2 := IntWalk.i64_in _ (by omega)
  have hgt : ¬ (0 : Int) < y2 := by omega
  have hle : y2 ≤ 0 := by omega
  have hlo : -10 < y2 := by omega
  have he0 : (0 : Int) < (e : Int) := by omega
  obtain ⟨H, hH⟩ : ∃ v : Nat, 42 + (1024 - 15 - e) = v := ⟨_, rfl⟩
  have hHi : 43 - y2 = (H : Int) := by omega
  have hHw : IntKind.i64.wrap (H : Int) = (H : Int) := IntWalk.i64_in _ (by omega)
  have hH64 : (H : Int) ≤ 64 := by omega
  obtain ⟨PH, hPH⟩ : ∃ v : Nat, 2 ^ H = v := ⟨_, rfl⟩
  have hPi : (2 : Int) ^ H = (PH : Int) := by rw [pow_cast, hPH]
  have hD : 4398046511104 * 2 ^ (1024 - 15 - e) = PH := by
    rw [← hPH, ← hH, Nat.pow_add]
  rw [hD] at hO
  obtain ⟨fx, hfx⟩ : ∃ v : Nat, f + 4503599627370496 = v := ⟨_, rfl⟩
  have gx := or_add (a := 1) (b := f) (n := 52) hfl (by omega)
  change bits .or .u64 (4503599627370496 : Int) (f : Int) = ((4503599627370496 + f : Nat) : Int) at gx
  rw [Nat.add_comm, hfx] at gx
  rw [hfx] at hO
  obtain ⟨g, hg⟩ : ∃ v : Nat, fx / PH = v := ⟨_, rfl⟩
  have hgi : (fx : Int) / (PH : Int) = (g : Int) := by rw [← hg]; exact (Int.natCast_ediv fx PH).symm
  rw [hg] at hO
  have hgl : g < 32768 := by
    rw [← hg, Nat.div_lt_iff_lt_mul (by rw [← hPH]; exact Nat.pow_pos (by omega))]
    have h1 : 2 ^ 43 ≤ PH := by rw [← hPH]; exact pow_le (by omega)
    have h2 : 32768 * 2 ^ 43 ≤ 32768 * PH := Nat.mul_le_mul_left _ h1
    omega
  obtain ⟨r, hr2⟩ : ∃ v : Nat, sv + g = v := ⟨_, rfl⟩
  have hr : rnO f16 x = r := by rw [hO, hsv, hr2]
  have g1 := or_add (a := s) (b := g) (n := 15) hgl (by omega)
  change bits .or .u64 ((s * 32768 : Nat) : Int) (g : Int) = ((s * 32768 + g : Nat) : Int) at g1
  rw [hsv, hr2] at g1
  rw [hr] at hwd ⊢
  clear hO hr hr2 hg hsv hf hee hq hs hfl hel hs2 hx he1 he2 he3 he4 hH hPH hD hfx hgl
  go_enter Tryz.func22, Tryz.ntmps22
  go_wp2_with fail
  refine (hiw _).mono ?_
  rintro e w1 ⟨rfl, rfl⟩
  go_wp2_with fail
  refine (hsz _).mono ?_
  rintro e w2 ⟨rfl, rfl⟩
  have hWq : Below w.heap.size w w := Below.refl _ _
  go_wp2_with fail
  refine (hwd _).mono ?_
  rintro e w3 ⟨rfl, hb3⟩
  have hW3 := hWq.trans (hb3.mono hWq.size)
  go_wp2
  go_ret2
  exact ⟨rfl, hW3⟩

set_option maxRecDepth 100000 in
set_option maxHeartbeats 4000000 in
theorem rnarrow16_else_ok (x : Nat) (hx : x < 18446744073709551616) (he : x / 4503599627370496 % 2048 ≠ 2047 ∧ ¬ (1023 < x / 4503599627370496 % 2048 + 15 ∧ x / 4503599627370496 % 2048 + 15 < 1023 + 32 - 1) ∧ ¬ (0 < x / 4503599627370496 % 2048 ∧ x / 4503599627370496 % 2048 + 15 ≤ 1023 ∧ 1023 < x / 4503599627370496 % 2048 + 15 + 10)) (h9 : widV f16 (rnO f16 x) = x) (w : World) :
    Calls Tryz.prog 22 #[.int .u64 x, .int .i64 16] w fun e w' => e = .returned (.tuple #[.int .u64 (rnO f16 x : Nat), .bool true]) ∧ Below w.heap.size w w' := by
  have hiw := fun W => rIsWidth_calls 16 W
  change ∀ W, Calls _ _ _ _ fun e w' => e = .returned (.bool true) ∧ _ at hiw
  have hsz := rsizes16
  have hrl : rnO f16 x < 65536 := rnO_lt f16 (by first | exact .inl rfl | exact .inr rfl) hx
  have hO : rnO f16 x = rnO f16 x := rfl
  conv at hO => rhs; unfold rnO
  change rnO f16 x = (if x / 4503599627370496 % 2048 = 2047 then x / 9223372036854775808 * 32768 + 31 * 1024 + x % 4503599627370496 / 4398046511104
    else if 1023 < x / 4503599627370496 % 2048 + 15 ∧ x / 4503599627370496 % 2048 + 15 < 1023 + 32 - 1 then x / 9223372036854775808 * 32768 + (x / 4503599627370496 % 2048 + 15 - 1023) * 1024 + x % 4503599627370496 / 4398046511104
    else if 0 < x / 4503599627370496 % 2048 ∧ x / 4503599627370496 % 2048 + 15 ≤ 1023 ∧ 1023 < x / 4503599627370496 % 2048 + 15 + 10 then x / 9223372036854775808 * 32768 + (x % 4503599627370496 + 4503599627370496) / (4398046511104 * 2 ^ (1024 - 15 - x / 4503599627370496 % 2048))
    else x / 9223372036854775808 * 32768) at hO
  have hwd := fun W => rWiden_calls (rnO f16 x) (by omega) 16 W
  rw [show widS (rnO f16 x) 16 = widV f16 (rnO f16 x) from if_pos hrl] at hwd
  obtain ⟨we, hwe2⟩ : ∃ v, widE (rnO f16 x) 16 = v := ⟨_, rfl⟩
  rw [hwe2] at hwd
  clear hwe2 hrl
  obtain ⟨s, hs⟩ : ∃ s, x / 9223372036854775808 = s := ⟨_, rfl⟩
  have hsd : (x : Int) / 9223372036854775808 = (s : Int) := by omega
  have hs2 : s < 2 := by omega
  obtain ⟨q, hq⟩ : ∃ q, x / 4503599627370496 = q := ⟨_, rfl⟩
  have hqd : (x : Int) / 4503599627370496 = (q : Int) := by omega
  have e1 := and_mask (x := q) (n := 11) (by omega) 2047 (by decide) (by decide)
  have e2 := and_mask (x := x) (n := 52) hx 4503599627370495 (by decide) (by decide)
  change _ = ((q % 2048 : Nat) : Int) at e1
  change _ = ((x % 4503599627370496 : Nat) : Int) at e2
  rw [hq] at he hO
  rw [hs] at hO
  obtain ⟨e, hee⟩ : ∃ e, q % 2048 = e := ⟨_, rfl⟩
  obtain ⟨f, hf⟩ : ∃ f, x % 4503599627370496 = f := ⟨_, rfl⟩
  rw [hee] at he e1 hO
  rw [hf] at e2 hO
  have hfl : f < 4503599627370496 := by omega
  have hel : e < 2048 := by omega
  have hwe : IntKind.i64.wrap (e : Int) = (e : Int) := IntWalk.i64_in _ (by omega)
  obtain ⟨sv, hsv⟩ : ∃ v : Nat, s * 32768 = v := ⟨_, rfl⟩
  have hsm : (s : Int) * 32768 = (sv : Int) := by omega
  have hsw : IntKind.u64.wrap (sv : Int) = (sv : Int) := IntWalk.u64_in _ (by omega)
  rw [h9] at hwd
  obtain ⟨he1, he2, he3⟩ := he
  rw [if_neg he1, if_neg he2, if_neg he3] at hO
  have heb : ((e : Int) == 2047) = false := by rw [beq_eq_false_iff_ne]; omega
  obtain ⟨y1, hy1⟩ : ∃ y : Int, (e : Int) - 1023 = y := ⟨_, rfl⟩
  obtain ⟨y2, hy2⟩ : ∃ y : Int, y1 + 15 = y := ⟨_, rfl⟩
  have hyw1 : IntKind.i64.wrap y1 = y1 := IntWalk.i64_in _ (by omega)
  have hyw2 : IntKind.i64.wrap y2 = y2 := IntWalk.i64_in _ (by omega)
  have hc : ((0 : Int) < y2 ∧ ¬ y2 < 31 ∧ (0 : Int) < (e : Int) ∧ -10 < y2 ∧ ¬ y2 ≤ 0) ∨ (¬ (0 : Int) < y2 ∧ ¬ (0 : Int) < (e : Int)) ∨ (¬ (0 : Int) < y2 ∧ (0 : Int) < (e : Int) ∧ ¬ -10 < y2) := by omega
  obtain ⟨r, hr2⟩ : ∃ v : Nat, sv = v := ⟨_, rfl⟩
  have hr : rnO f16 x = r := by rw [hO]; omega
  rw [hr] at hwd ⊢
  rw [hr2] at hsm hsw
  clear hO hr hr2 hsv hf hee hq hs hfl hel hs2 hx he1 he2 he3 e2
  rcases hc with ⟨c1, c2, c3, c4, c5⟩ | ⟨c1, c2⟩ | ⟨c1, c2, c3⟩
  all_goals (
    go_enter Tryz.func22, Tryz.ntmps22
    go_wp2_with fail
    refine (hiw _).mono ?_
    rintro e w1 ⟨rfl, rfl⟩
    go_wp2_with fail
    refine (hsz _).mono ?_
    rintro e w2 ⟨rfl, rfl⟩
    have hWq : Below w.heap.size w w := Below.refl _ _
    go_wp2_with fail
    refine (hwd _).mono ?_
    rintro e w3 ⟨rfl, hb3⟩
    have hW3 := hWq.trans (hb3.mono hWq.size)
    go_wp2
    go_ret2
    exact ⟨rfl, hW3⟩)

set_option maxRecDepth 100000 in
set_option maxHeartbeats 4000000 in
theorem rnarrow16_top_no (x : Nat) (hx : x < 18446744073709551616) (he : x / 4503599627370496 % 2048 = 2047) (h9 : widV f16 (rnO f16 x) ≠ x) (w : World) :
    Calls Tryz.prog 22 #[.int .u64 x, .int .i64 16] w fun e w' => e = .returned (.tuple #[.int .u64 0, .bool false]) ∧ Below w.heap.size w w' := by
  have hiw := fun W => rIsWidth_calls 16 W
  change ∀ W, Calls _ _ _ _ fun e w' => e = .returned (.bool true) ∧ _ at hiw
  have hsz := rsizes16
  have hrl : rnO f16 x < 65536 := rnO_lt f16 (by first | exact .inl rfl | exact .inr rfl) hx
  have hO : rnO f16 x = rnO f16 x := rfl
  conv at hO => rhs; unfold rnO
  change rnO f16 x = (if x / 4503599627370496 % 2048 = 2047 then x / 9223372036854775808 * 32768 + 31 * 1024 + x % 4503599627370496 / 4398046511104
    else if 1023 < x / 4503599627370496 % 2048 + 15 ∧ x / 4503599627370496 % 2048 + 15 < 1023 + 32 - 1 then x / 9223372036854775808 * 32768 + (x / 4503599627370496 % 2048 + 15 - 1023) * 1024 + x % 4503599627370496 / 4398046511104
    else if 0 < x / 4503599627370496 % 2048 ∧ x / 4503599627370496 % 2048 + 15 ≤ 1023 ∧ 1023 < x / 4503599627370496 % 2048 + 15 + 10 then x / 9223372036854775808 * 32768 + (x % 4503599627370496 + 4503599627370496) / (4398046511104 * 2 ^ (1024 - 15 - x / 4503599627370496 % 2048))
    else x / 9223372036854775808 * 32768) at hO
  have hwd := fun W => rWiden_calls (rnO f16 x) (by omega) 16 W
  rw [show widS (rnO f16 x) 16 = widV f16 (rnO f16 x) from if_pos hrl] at hwd
  obtain ⟨we, hwe2⟩ : ∃ v, widE (rnO f16 x) 16 = v := ⟨_, rfl⟩
  rw [hwe2] at hwd
  clear hwe2 hrl
  obtain ⟨s, hs⟩ : ∃ s, x / 9223372036854775808 = s := ⟨_, rfl⟩
  have hsd : (x : Int) / 9223372036854775808 = (s : Int) := by omega
  have hs2 : s < 2 := by omega
  obtain ⟨q, hq⟩ : ∃ q, x / 4503599627370496 = q := ⟨_, rfl⟩
  have hqd : (x : Int) / 4503599627370496 = (q : Int) := by omega
  have e1 := and_mask (x := q) (n := 11) (by omega) 2047 (by decide) (by decide)
  have e2 := and_mask (x := x) (n := 52) hx 4503599627370495 (by decide) (by decide)
  change _ = ((q % 2048 : Nat) : Int) at e1
  change _ = ((x % 4503599627370496 : Nat) : Int) at e2
  rw [hq] at he hO
  rw [hs] at hO
  obtain ⟨e, hee⟩ : ∃ e, q % 2048 = e := ⟨_, rfl⟩
  obtain ⟨f, hf⟩ : ∃ f, x % 4503599627370496 = f := ⟨_, rfl⟩
  rw [hee] at he e1 hO
  rw [hf] at e2 hO
  have hfl : f < 4503599627370496 := by omega
  have hel : e < 2048 := by omega
  have hwe : IntKind.i64.wrap (e : Int) = (e : Int) := IntWalk.i64_in _ (by omega)
  obtain ⟨sv, hsv⟩ : ∃ v : Nat, s * 32768 = v := ⟨_, rfl⟩
  have hsm : (s : Int) * 32768 = (sv : Int) := by omega
  have hsw : IntKind.u64.wrap (sv : Int) = (sv : Int) := IntWalk.u64_in _ (by omega)
  obtain ⟨z, hz⟩ : ∃ z, widV f16 (rnO f16 x) = z := ⟨_, rfl⟩
  rw [hz] at hwd h9
  have hzx : ((z : Int) != (x : Int)) = true := by rw [bne_iff_ne]; omega
  clear h9 hz
  subst he
  rw [if_pos rfl] at hO
  obtain ⟨g, hg⟩ : ∃ v : Nat, f / 4398046511104 = v := ⟨_, rfl⟩
  have hgi : (f : Int) / 4398046511104 = (g : Int) := by omega
  obtain ⟨v1, hv1⟩ : ∃ v : Nat, sv + 31744 = v := ⟨_, rfl⟩
  obtain ⟨r, hr2⟩ : ∃ v : Nat, v1 + g = v := ⟨_, rfl⟩
  have k1 : (s * 32 + 31) * 1024 = v1 := by rw [kt16, hsv, hv1]
  have hr : rnO f16 x = r := by rw [hO, hsv, hg, ← hr2, ← hv1] <;> rfl
  have g2 := or_add (a := s * 32 + 31) (b := g) (n := 10) (by omega) (by omega)
  have g1 := or_add (a := s) (b := 31744) (n := 15) (by decide) (by omega)
  change bits .or .u64 ((s * 32768 : Nat) : Int) 31744 = ((s * 32768 + 31744 : Nat) : Int) at g1
  rw [hsv, hv1] at g1
  change bits .or .u64 (((s * 32 + 31) * 1024 : Nat) : Int) (g : Int) = (((s * 32 + 31) * 1024 + g : Nat) : Int) at g2
  rw [k1, hr2] at g2
  rw [hr] at hwd
  clear hO hr hr2 hv1 k1 hg hsv hf hee hq hs hfl hel hs2 hx
  go_enter Tryz.func22, Tryz.ntmps22
  go_wp2_with fail
  refine (hiw _).mono ?_
  rintro e w1 ⟨rfl, rfl⟩
  go_wp2_with fail
  refine (hsz _).mono ?_
  rintro e w2 ⟨rfl, rfl⟩
  go_wp2
  go_quiet (fail)
  have hWq : Below w.heap.size w (w.drewN nq) := belowN (Below.refl _ _) nq
  generalize w.drewN nq = Z1 at *
  go_wp2_with fail
  refine (hwd _).mono ?_
  rintro e w3 ⟨rfl, hb3⟩
  have hW3 := hWq.trans (hb3.mono hWq.size)
  go_wp2
  go_ret2
  exact ⟨rfl, hW3⟩

set_option maxRecDepth 100000 in
set_option maxHeartbeats 4000000 in
theorem rnarrow16_main_no (x : Nat) (hx : x < 18446744073709551616) (he : x / 4503599627370496 % 2048 ≠ 2047 ∧ 1023 < x / 4503599627370496 % 2048 + 15 ∧ x / 4503599627370496 % 2048 + 15 < 1023 + 32 - 1) (h9 : widV f16 (rnO f16 x) ≠ x) (w : World) :
    Calls Tryz.prog 22 #[.int .u64 x, .int .i64 16] w fun e w' => e = .returned (.tuple #[.int .u64 0, .bool false]) ∧ Below w.heap.size w w' := by
  have hiw := fun W => rIsWidth_calls 16 W
  change ∀ W, Calls _ _ _ _ fun e w' => e = .returned (.bool true) ∧ _ at hiw
  have hsz := rsizes16
  have hrl : rnO f16 x < 65536 := rnO_lt f16 (by first | exact .inl rfl | exact .inr rfl) hx
  have hO : rnO f16 x = rnO f16 x := rfl
  conv at hO => rhs; unfold rnO
  change rnO f16 x = (if x / 4503599627370496 % 2048 = 2047 then x / 9223372036854775808 * 32768 + 31 * 1024 + x % 4503599627370496 / 4398046511104
    else if 1023 < x / 4503599627370496 % 2048 + 15 ∧ x / 4503599627370496 % 2048 + 15 < 1023 + 32 - 1 then x / 9223372036854775808 * 32768 + (x / 4503599627370496 % 2048 + 15 - 1023) * 1024 + x % 4503599627370496 / 4398046511104
    else if 0 < x / 4503599627370496 % 2048 ∧ x / 4503599627370496 % 2048 + 15 ≤ 1023 ∧ 1023 < x / 4503599627370496 % 2048 + 15 + 10 then x / 9223372036854775808 * 32768 + (x % 4503599627370496 + 4503599627370496) / (4398046511104 * 2 ^ (1024 - 15 - x / 4503599627370496 % 2048))
    else x / 9223372036854775808 * 32768) at hO
  have hwd := fun W => rWiden_calls (rnO f16 x) (by omega) 16 W
  rw [show widS (rnO f16 x) 16 = widV f16 (rnO f16 x) from if_pos hrl] at hwd
  obtain ⟨we, hwe2⟩ : ∃ v, widE (rnO f16 x) 16 = v := ⟨_, rfl⟩
  rw [hwe2] at hwd
  clear hwe2 hrl
  obtain ⟨s, hs⟩ : ∃ s, x / 9223372036854775808 = s := ⟨_, rfl⟩
  have hsd : (x : Int) / 9223372036854775808 = (s : Int) := by omega
  have hs2 : s < 2 := by omega
  obtain ⟨q, hq⟩ : ∃ q, x / 4503599627370496 = q := ⟨_, rfl⟩
  have hqd : (x : Int) / 4503599627370496 = (q : Int) := by omega
  have e1 := and_mask (x := q) (n := 11) (by omega) 2047 (by decide) (by decide)
  have e2 := and_mask (x := x) (n := 52) hx 4503599627370495 (by decide) (by decide)
  change _ = ((q % 2048 : Nat) : Int) at e1
  change _ = ((x % 4503599627370496 : Nat) : Int) at e2
  rw [hq] at he hO
  rw [hs] at hO
  obtain ⟨e, hee⟩ : ∃ e, q % 2048 = e := ⟨_, rfl⟩
  obtain ⟨f, hf⟩ : ∃ f, x % 4503599627370496 = f := ⟨_, rfl⟩
  rw [hee] at he e1 hO
  rw [hf] at e2 hO
  have hfl : f < 4503599627370496 := by omega
  have hel : e < 2048 := by omega
  have hwe : IntKind.i64.wrap (e : Int) = (e : Int) := IntWalk.i64_in _ (by omega)
  obtain ⟨sv, hsv⟩ : ∃ v : Nat, s * 32768 = v := ⟨_, rfl⟩
  have hsm : (s : Int) * 32768 = (sv : Int) := by omega
  have hsw : IntKind.u64.wrap (sv : Int) = (sv : Int) := IntWalk.u64_in _ (by omega)
  obtain ⟨z, hz⟩ : ∃ z, widV f16 (rnO f16 x) = z := ⟨_, rfl⟩
  rw [hz] at hwd h9
  have hzx : ((z : Int) != (x : Int)) = true := by rw [bne_iff_ne]; omega
  clear h9 hz
  obtain ⟨he1, he2, he3⟩ := he
  rw [if_neg he1, if_pos ⟨he2, he3⟩] at hO
  have heb : ((e : Int) == 2047) = false := by rw [beq_eq_false_iff_ne]; omega
  obtain ⟨E, hE⟩ : ∃ v : Nat, e + 15 - 1023 = v := ⟨_, rfl⟩
  rw [hE] at hO
  obtain ⟨y1, hy1⟩ : ∃ y : Int, (e : Int) - 1023 = y := ⟨_, rfl⟩
  have hy2 : y1 + 15 = (E : Int) := by omega
  have hyw1 : IntKind.i64.wrap y1 = y1 := IntWalk.i64_in _ (by omega)
  have hyw2 : IntKind.i64.wrap (E : Int) = (E : Int) := IntWalk.i64_in _ (by omega)
  have hyw3 : IntKind.u64.wrap (E : Int) = (E : Int) := IntWalk.u64_in _ (by omega)
  have hgt : (0 : Int) < (E : Int) := by omega
  have hlt : (E : Int) < 31 := by omega
  obtain ⟨ev, hev⟩ : ∃ v : Nat, E * 1024 = v := ⟨_, rfl⟩
  have hem : (E : Int) * 1024 = (ev : Int) := by omega
  have hew : IntKind.u64.wrap (ev : Int) = (ev : Int) := IntWalk.u64_in _ (by omega)
  obtain ⟨g, hg⟩ : ∃ v : Nat, f / 4398046511104 = v := ⟨_, rfl⟩
  have hgi : (f : Int) / 4398046511104 = (g : Int) := by omega
  obtain ⟨v1, hv1⟩ : ∃ v : Nat, sv + ev = v := ⟨_, rfl⟩
  obtain ⟨r, hr2⟩ : ∃ v : Nat, v1 + g = v := ⟨_, rfl⟩
  have k1 : (s * 32 + E) * 1024 = v1 := by rw [ke16, hsv, hev, hv1]
  have hr : rnO f16 x = r := by rw [hO, hsv, hev, hg, hv1, hr2]
  have g2 := or_add (a := s * 32 + E) (b := g) (n := 10) (by omega) (by omega)
  have g1 := or_add (a := s) (b := ev) (n := 15) (by omega) (by omega)
  change bits .or .u64 ((s * 32768 : Nat) : Int) (ev : Int) = ((s * 32768 + ev : Nat) : Int) at g1
  rw [hsv, hv1] at g1
  change bits .or .u64 (((s * 32 + E) * 1024 : Nat) : Int) (g : Int) = (((s * 32 + E) * 1024 + g : Nat) : Int) at g2
  rw [k1, hr2] at g2
  rw [hr] at hwd
  clear hO hr hr2 hv1 k1 hg hsv hf hee hq hs hfl hel hs2 hx hev hE he1 he2 he3
  go_enter Tryz.func22, Tryz.ntmps22
  go_wp2_with fail
  refine (hiw _).mono ?_
  rintro e w1 ⟨rfl, rfl⟩
  go_wp2_with fail
  refine (hsz _).mono ?_
  rintro e w2 ⟨rfl, rfl⟩
  go_wp2
  go_quiet (fail)
  have hWq : Below w.heap.size w (w.drewN nq) := belowN (Below.refl _ _) nq
  generalize w.drewN nq = Z1 at *
  go_wp2_with fail
  refine (hwd _).mono ?_
  rintro e w3 ⟨rfl, hb3⟩
  have hW3 := hWq.trans (hb3.mono hWq.size)
  go_wp2
  go_ret2
  exact ⟨rfl, hW3⟩

set_option maxRecDepth 100000 in
set_option maxHeartbeats 4000000 in
theorem rnarrow16_sub_no (x : Nat) (hx : x < 18446744073709551616) (he : x / 4503599627370496 % 2048 ≠ 2047 ∧ 0 < x / 4503599627370496 % 2048 ∧ x / 4503599627370496 % 2048 + 15 ≤ 1023 ∧ 1023 < x / 4503599627370496 % 2048 + 15 + 10) (h9 : widV f16 (rnO f16 x) ≠ x) (w : World) :
    Calls Tryz.prog 22 #[.int .u64 x, .int .i64 16] w fun e w' => e = .returned (.tuple #[.int .u64 0, .bool false]) ∧ Below w.heap.size w w' := by
  have hiw := fun W => rIsWidth_calls 16 W
  change ∀ W, Calls _ _ _ _ fun e w' => e = .returned (.bool true) ∧ _ at hiw
  have hsz := rsizes16
  have hrl : rnO f16 x < 65536 := rnO_lt f16 (by first | exact .inl rfl | exact .inr rfl) hx
  have hO : rnO f16 x = rnO f16 x := rfl
  conv at hO => rhs; unfold rnO
  change rnO f16 x = (if x / 4503599627370496 % 2048 = 2047 then x / 9223372036854775808 * 32768 + 31 * 1024 + x % 4503599627370496 / 4398046511104
    else if 1023 < x / 4503599627370496 % 2048 + 15 ∧ x / 4503599627370496 % 2048 + 15 < 1023 + 32 - 1 then x / 9223372036854775808 * 32768 + (x / 4503599627370496 % 2048 + 15 - 1023) * 1024 + x % 4503599627370496 / 4398046511104
    else if 0 < x / 4503599627370496 % 2048 ∧ x / 4503599627370496 % 2048 + 15 ≤ 1023 ∧ 1023 < x / 4503599627370496 % 2048 + 15 + 10 then x / 9223372036854775808 * 32768 + (x % 4503599627370496 + 4503599627370496) / (4398046511104 * 2 ^ (1024 - 15 - x / 4503599627370496 % 2048))
    else x / 9223372036854775808 * 32768) at hO
  have hwd := fun W => rWiden_calls (rnO f16 x) (by omega) 16 W
  rw [show widS (rnO f16 x) 16 = widV f16 (rnO f16 x) from if_pos hrl] at hwd
  obtain ⟨we, hwe2⟩ : ∃ v, widE (rnO f16 x) 16 = v := ⟨_, rfl⟩
  rw [hwe2] at hwd
  clear hwe2 hrl
  obtain ⟨s, hs⟩ : ∃ s, x / 9223372036854775808 = s := ⟨_, rfl⟩
  have hsd : (x : Int) / 9223372036854775808 = (s : Int) := by omega
  have hs2 : s < 2 := by omega
  obtain ⟨q, hq⟩ : ∃ q, x / 4503599627370496 = q := ⟨_, rfl⟩
  have hqd : (x : Int) / 4503599627370496 = (q : Int) := by omega
  have e1 := and_mask (x := q) (n := 11) (by omega) 2047 (by decide) (by decide)
  have e2 := and_mask (x := x) (n := 52) hx 4503599627370495 (by decide) (by decide)
  change _ = ((q % 2048 : Nat) : Int) at e1
  change _ = ((x % 4503599627370496 : Nat) : Int) at e2
  rw [hq] at he hO
  rw [hs] at hO
  obtain ⟨e, hee⟩ : ∃ e, q % 2048 = e := ⟨_, rfl⟩
  obtain ⟨f, hf⟩ : ∃ f, x % 4503599627370496 = f := ⟨_, rfl⟩
  rw [hee] at he e1 hO
  rw [hf] at e2 hO
  have hfl : f < 4503599627370496 := by omega
  have hel : e < 2048 := by omega
  have hwe : IntKind.i64.wrap (e : Int) = (e : Int) := IntWalk.i64_in _ (by omega)
  obtain ⟨sv, hsv⟩ : ∃ v : Nat, s * 32768 = v := ⟨_, rfl⟩
  have hsm : (s : Int) * 32768 = (sv : Int) := by omega
  have hsw : IntKind.u64.wrap (sv : Int) = (sv : Int) := IntWalk.u64_in _ (by omega)
  obtain ⟨z, hz⟩ : ∃ z, widV f16 (rnO f16 x) = z := ⟨_, rfl⟩
  rw [hz] at hwd h9
  have hzx : ((z : Int) != (x : Int)) = true := by rw [bne_iff_ne]; omega
  clear h9 hz
  obtain ⟨he1, he2, he3, he4⟩ := he
  rw [if_neg he1, if_neg (by omega), if_pos ⟨he2, he3, he4⟩] at hO
  have heb : ((e : Int) == 2047) = false := by rw [beq_eq_false_iff_ne]; omega
  obtain ⟨y1, hy1⟩ : ∃ y : Int, (e : Int) - 1023 = y := ⟨_, rfl⟩
  obtain ⟨y2, hy2⟩ : ∃ y : Int, y1 + 15 = y := ⟨_, rfl⟩
  have hyw1 : IntKind.i64.wrap y1 = y1 := IntWalk.i64_in _ (by omega)
  have hyw2 : IntKind.i64.wrap y2 = y2 := IntWalk.i64_in _ (by omega)
  have hgt : ¬ (0 : Int) < y2 := by omega
  have hle : y2 ≤ 0 := by omega
  have hlo : -10 < y2 := by omega
  have he0 : (0 : Int) < (e : Int) := by omega
  obtain ⟨H, hH⟩ : ∃ v : Nat, 42 + (1024 - 15 - e) = v := ⟨_, rfl⟩
  have hHi : 43 - y2 = (H : Int) := by omega
  have hHw : IntKind.i64.wrap (H : Int) = (H : Int) := IntWalk.i64_in _ (by omega)
  have hH64 : (H : Int) ≤ 64 := by omega
  obtain ⟨PH, hPH⟩ : ∃ v : Nat, 2 ^ H = v := ⟨_, rfl⟩
  have hPi : (2 : Int) ^ H = (PH : Int) := by rw [pow_cast, hPH]
  have hD : 4398046511104 * 2 ^ (1024 - 15 - e) = PH := by
    rw [← hPH, ← hH, Nat.pow_add]
  rw [hD] at hO
  obtain ⟨fx, hfx⟩ : ∃ v : Nat, f + 4503599627370496 = v := ⟨_, rfl⟩
  have gx := or_add (a := 1) (b := f) (n := 52) hfl (by omega)
  change bits .or .u64 (4503599627370496 : Int) (f : Int) = ((4503599627370496 + f : Nat) : Int) at gx
  rw [Nat.add_comm, hfx] at gx
  rw [hfx] at hO
  obtain ⟨g, hg⟩ : ∃ v : Nat, fx / PH = v := ⟨_, rfl⟩
  have hgi : (fx : Int) / (PH : Int) = (g : Int) := by rw [← hg]; exact (Int.natCast_ediv fx PH).symm
  rw [hg] at hO
  have hgl : g < 32768 := by
    rw [← hg, Nat.div_lt_iff_lt_mul (by rw [← hPH]; exact Nat.pow_pos (by omega))]
    have h1 : 2 ^ 43 ≤ PH := by rw [← hPH]; exact pow_le (by omega)
    have h2 : 32768 * 2 ^ 43 ≤ 32768 * PH := Nat.mul_le_mul_left _ h1
    omega
  obtain ⟨r, hr2⟩ : ∃ v : Nat, sv + g = v := ⟨_, rfl⟩
  have hr : rnO f16 x = r := by rw [hO, hsv, hr2]
  have g1 := or_add (a := s) (b := g) (n := 15) hgl (by omega)
  change bits .or .u64 ((s * 32768 : Nat) : Int) (g : Int) = ((s * 32768 + g : Nat) : Int) at g1
  rw [hsv, hr2] at g1
  rw [hr] at hwd
  clear hO hr hr2 hg hsv hf hee hq hs hfl hel hs2 hx he1 he2 he3 he4 hH hPH hD hfx hgl
  go_enter Tryz.func22, Tryz.ntmps22
  go_wp2_with fail
  refine (hiw _).mono ?_
  rintro e w1 ⟨rfl, rfl⟩
  go_wp2_with fail
  refine (hsz _).mono ?_
  rintro e w2 ⟨rfl, rfl⟩
  have hWq : Below w.heap.size w w := Below.refl _ _
  go_wp2_with fail
  refine (hwd _).mono ?_
  rintro e w3 ⟨rfl, hb3⟩
  have hW3 := hWq.trans (hb3.mono hWq.size)
  go_wp2
  go_ret2
  exact ⟨rfl, hW3⟩

set_option maxRecDepth 100000 in
set_option maxHeartbeats 4000000 in
theorem rnarrow16_else_no (x : Nat) (hx : x < 18446744073709551616) (he : x / 4503599627370496 % 2048 ≠ 2047 ∧ ¬ (1023 < x / 4503599627370496 % 2048 + 15 ∧ x / 4503599627370496 % 2048 + 15 < 1023 + 32 - 1) ∧ ¬ (0 < x / 4503599627370496 % 2048 ∧ x / 4503599627370496 % 2048 + 15 ≤ 1023 ∧ 1023 < x / 4503599627370496 % 2048 + 15 + 10)) (h9 : widV f16 (rnO f16 x) ≠ x) (w : World) :
    Calls Tryz.prog 22 #[.int .u64 x, .int .i64 16] w fun e w' => e = .returned (.tuple #[.int .u64 0, .bool false]) ∧ Below w.heap.size w w' := by
  have hiw := fun W => rIsWidth_calls 16 W
  change ∀ W, Calls _ _ _ _ fun e w' => e = .returned (.bool true) ∧ _ at hiw
  have hsz := rsizes16
  have hrl : rnO f16 x < 65536 := rnO_lt f16 (by first | exact .inl rfl | exact .inr rfl) hx
  have hO : rnO f16 x = rnO f16 x := rfl
  conv at hO => rhs; unfold rnO
  change rnO f16 x = (if x / 4503599627370496 % 2048 = 2047 then x / 9223372036854775808 * 32768 + 31 * 1024 + x % 4503599627370496 / 4398046511104
    else if 1023 < x / 4503599627370496 % 2048 + 15 ∧ x / 4503599627370496 % 2048 + 15 < 1023 + 32 - 1 then x / 9223372036854775808 * 32768 + (x / 4503599627370496 % 2048 + 15 - 1023) * 1024 + x % 4503599627370496 / 4398046511104
    else if 0 < x / 4503599627370496 % 2048 ∧ x / 4503599627370496 % 2048 + 15 ≤ 1023 ∧ 1023 < x / 4503599627370496 % 2048 + 15 + 10 then x / 9223372036854775808 * 32768 + (x % 4503599627370496 + 4503599627370496) / (4398046511104 * 2 ^ (1024 - 15 - x / 4503599627370496 % 2048))
    else x / 9223372036854775808 * 32768) at hO
  have hwd := fun W => rWiden_calls (rnO f16 x) (by omega) 16 W
  rw [show widS (rnO f16 x) 16 = widV f16 (rnO f16 x) from if_pos hrl] at hwd
  obtain ⟨we, hwe2⟩ : ∃ v, widE (rnO f16 x) 16 = v := ⟨_, rfl⟩
  rw [hwe2] at hwd
  clear hwe2 hrl
  obtain ⟨s, hs⟩ : ∃ s, x / 9223372036854775808 = s := ⟨_, rfl⟩
  have hsd : (x : Int) / 9223372036854775808 = (s : Int) := by omega
  have hs2 : s < 2 := by omega
  obtain ⟨q, hq⟩ : ∃ q, x / 4503599627370496 = q := ⟨_, rfl⟩
  have hqd : (x : Int) / 4503599627370496 = (q : Int) := by omega
  have e1 := and_mask (x := q) (n := 11) (by omega) 2047 (by decide) (by decide)
  have e2 := and_mask (x := x) (n := 52) hx 4503599627370495 (by decide) (by decide)
  change _ = ((q % 2048 : Nat) : Int) at e1
  change _ = ((x % 4503599627370496 : Nat) : Int) at e2
  rw [hq] at he hO
  rw [hs] at hO
  obtain ⟨e, hee⟩ : ∃ e, q % 2048 = e := ⟨_, rfl⟩
  obtain ⟨f, hf⟩ : ∃ f, x % 4503599627370496 = f := ⟨_, rfl⟩
  rw [hee] at he e1 hO
  rw [hf] at e2 hO
  have hfl : f < 4503599627370496 := by omega
  have hel : e < 2048 := by omega
  have hwe : IntKind.i64.wrap (e : Int) = (e : Int) := IntWalk.i64_in _ (by omega)
  obtain ⟨sv, hsv⟩ : ∃ v : Nat, s * 32768 = v := ⟨_, rfl⟩
  have hsm : (s : Int) * 32768 = (sv : Int) := by omega
  have hsw : IntKind.u64.wrap (sv : Int) = (sv : Int) := IntWalk.u64_in _ (by omega)
  obtain ⟨z, hz⟩ : ∃ z, widV f16 (rnO f16 x) = z := ⟨_, rfl⟩
  rw [hz] at hwd h9
  have hzx : ((z : Int) != (x : Int)) = true := by rw [bne_iff_ne]; omega
  clear h9 hz
  obtain ⟨he1, he2, he3⟩ := he
  rw [if_neg he1, if_neg he2, if_neg he3] at hO
  have heb : ((e : Int) == 2047) = false := by rw [beq_eq_false_iff_ne]; omega
  obtain ⟨y1, hy1⟩ : ∃ y : Int, (e : Int) - 1023 = y := ⟨_, rfl⟩
  obtain ⟨y2, hy2⟩ : ∃ y : Int, y1 + 15 = y := ⟨_, rfl⟩
  have hyw1 : IntKind.i64.wrap y1 = y1 := IntWalk.i64_in _ (by omega)
  have hyw2 : IntKind.i64.wrap y2 = y2 := IntWalk.i64_in _ (by omega)
  have hc : ((0 : Int) < y2 ∧ ¬ y2 < 31 ∧ (0 : Int) < (e : Int) ∧ -10 < y2 ∧ ¬ y2 ≤ 0) ∨ (¬ (0 : Int) < y2 ∧ ¬ (0 : Int) < (e : Int)) ∨ (¬ (0 : Int) < y2 ∧ (0 : Int) < (e : Int) ∧ ¬ -10 < y2) := by omega
  obtain ⟨r, hr2⟩ : ∃ v : Nat, sv = v := ⟨_, rfl⟩
  have hr : rnO f16 x = r := by rw [hO]; omega
  rw [hr] at hwd
  rw [hr2] at hsm hsw
  clear hO hr hr2 hsv hf hee hq hs hfl hel hs2 hx he1 he2 he3 e2
  rcases hc with ⟨c1, c2, c3, c4, c5⟩ | ⟨c1, c2⟩ | ⟨c1, c2, c3⟩
  all_goals (
    go_enter Tryz.func22, Tryz.ntmps22
    go_wp2_with fail
    refine (hiw _).mono ?_
    rintro e w1 ⟨rfl, rfl⟩
    go_wp2_with fail
    refine (hsz _).mono ?_
    rintro e w2 ⟨rfl, rfl⟩
    have hWq : Below w.heap.size w w := Below.refl _ _
    go_wp2_with fail
    refine (hwd _).mono ?_
    rintro e w3 ⟨rfl, hb3⟩
    have hW3 := hWq.trans (hb3.mono hWq.size)
    go_wp2
    go_ret2
    exact ⟨rfl, hW3⟩)

theorem kt32 (s : Nat) : (s * 256 + 255) * 8388608 = s * 2147483648 + 2139095040 := by omega
theorem ke32 (s E : Nat) : (s * 256 + E) * 8388608 = s * 2147483648 + E * 8388608 := by omega

set_option maxRecDepth 100000 in
set_option maxHeartbeats 4000000 in
theorem rnarrow32_top_ok (x : Nat) (hx : x < 18446744073709551616) (he : x / 4503599627370496 % 2048 = 2047) (h9 : widV f32 (rnO f32 x) = x) (w : World) :
    Calls Tryz.prog 22 #[.int .u64 x, .int .i64 32] w fun e w' => e = .returned (.tuple #[.int .u64 (rnO f32 x : Nat), .bool true]) ∧ Below w.heap.size w w' := by
  have hiw := fun W => rIsWidth_calls 32 W
  change ∀ W, Calls _ _ _ _ fun e w' => e = .returned (.bool true) ∧ _ at hiw
  have hsz := rsizes32
  have hrl : rnO f32 x < 4294967296 := rnO_lt f32 (by first | exact .inl rfl | exact .inr rfl) hx
  have hO : rnO f32 x = rnO f32 x := rfl
  conv at hO => rhs; unfold rnO
  change rnO f32 x = (if x / 4503599627370496 % 2048 = 2047 then x / 9223372036854775808 * 2147483648 + 255 * 8388608 + x % 4503599627370496 / 536870912
    else if 1023 < x / 4503599627370496 % 2048 + 127 ∧ x / 4503599627370496 % 2048 + 127 < 1023 + 256 - 1 then x / 9223372036854775808 * 2147483648 + (x / 4503599627370496 % 2048 + 127 - 1023) * 8388608 + x % 4503599627370496 / 536870912
    else if 0 < x / 4503599627370496 % 2048 ∧ x / 4503599627370496 % 2048 + 127 ≤ 1023 ∧ 1023 < x / 4503599627370496 % 2048 + 127 + 23 then x / 9223372036854775808 * 2147483648 + (x % 4503599627370496 + 4503599627370496) / (536870912 * 2 ^ (1024 - 127 - x / 4503599627370496 % 2048))
    else x / 9223372036854775808 * 2147483648) at hO
  have hwd := fun W => rWiden_calls (rnO f32 x) (by omega) 32 W
  rw [show widS (rnO f32 x) 32 = widV f32 (rnO f32 x) from if_pos hrl] at hwd
  obtain ⟨we, hwe2⟩ : ∃ v, widE (rnO f32 x) 32 = v := ⟨_, rfl⟩
  rw [hwe2] at hwd
  clear hwe2 hrl
  obtain ⟨s, hs⟩ : ∃ s, x / 9223372036854775808 = s := ⟨_, rfl⟩
  have hsd : (x : Int) / 9223372036854775808 = (s : Int) := by omega
  have hs2 : s < 2 := by omega
  obtain ⟨q, hq⟩ : ∃ q, x / 4503599627370496 = q := ⟨_, rfl⟩
  have hqd : (x : Int) / 4503599627370496 = (q : Int) := by omega
  have e1 := and_mask (x := q) (n := 11) (by omega) 2047 (by decide) (by decide)
  have e2 := and_mask (x := x) (n := 52) hx 4503599627370495 (by decide) (by decide)
  change _ = ((q % 2048 : Nat) : Int) at e1
  change _ = ((x % 4503599627370496 : Nat) : Int) at e2
  rw [hq] at he hO
  rw [hs] at hO
  obtain ⟨e, hee⟩ : ∃ e, q % 2048 = e := ⟨_, rfl⟩
  obtain ⟨f, hf⟩ : ∃ f, x % 4503599627370496 = f := ⟨_, rfl⟩
  rw [hee] at he e1 hO
  rw [hf] at e2 hO
  have hfl : f < 4503599627370496 := by omega
  have hel : e < 2048 := by omega
  have hwe : IntKind.i64.wrap (e : Int) = (e : Int) := IntWalk.i64_in _ (by omega)
  obtain ⟨sv, hsv⟩ : ∃ v : Nat, s * 2147483648 = v := ⟨_, rfl⟩
  have hsm : (s : Int) * 2147483648 = (sv : Int) := by omega
  have hsw : IntKind.u64.wrap (sv : Int) = (sv : Int) := IntWalk.u64_in _ (by omega)
  rw [h9] at hwd
  subst he
  rw [if_pos rfl] at hO
  obtain ⟨g, hg⟩ : ∃ v : Nat, f / 536870912 = v := ⟨_, rfl⟩
  have hgi : (f : Int) / 536870912 = (g : Int) := by omega
  obtain ⟨v1, hv1⟩ : ∃ v : Nat, sv + 2139095040 = v := ⟨_, rfl⟩
  obtain ⟨r, hr2⟩ : ∃ v : Nat, v1 + g = v := ⟨_, rfl⟩
  have k1 : (s * 256 + 255) * 8388608 = v1 := by rw [kt32, hsv, hv1]
  have hr : rnO f32 x = r := by rw [hO, hsv, hg, ← hr2, ← hv1] <;> rfl
  have g2 := or_add (a := s * 256 + 255) (b := g) (n := 23) (by omega) (by omega)
  have g1 := or_add (a := s) (b := 2139095040) (n := 31) (by decide) (by omega)
  change bits .or .u64 ((s * 2147483648 : Nat) : Int) 2139095040 = ((s * 2147483648 + 2139095040 : Nat) : Int) at g1
  rw [hsv, hv1] at g1
  change bits .or .u64 (((s * 256 + 255) * 8388608 : Nat) : Int) (g : Int) = (((s * 256 + 255) * 8388608 + g : Nat) : Int) at g2
  rw [k1, hr2] at g2
  rw [hr] at hwd ⊢
  clear hO hr hr2 hv1 k1 hg hsv hf hee hq hs hfl hel hs2 hx
  go_enter Tryz.func22, Tryz.ntmps22
  go_wp2_with fail
  refine (hiw _).mono ?_
  rintro e w1 ⟨rfl, rfl⟩
  go_wp2_with fail
  refine (hsz _).mono ?_
  rintro e w2 ⟨rfl, rfl⟩
  go_wp2
  go_quiet (fail)
  have hWq : Below w.heap.size w (w.drewN nq) := belowN (Below.refl _ _) nq
  generalize w.drewN nq = Z1 at *
  go_wp2_with fail
  refine (hwd _).mono ?_
  rintro e w3 ⟨rfl, hb3⟩
  have hW3 := hWq.trans (hb3.mono hWq.size)
  go_wp2
  go_ret2
  exact ⟨rfl, hW3⟩

set_option maxRecDepth 100000 in
set_option maxHeartbeats 4000000 in
theorem rnarrow32_main_ok (x : Nat) (hx : x < 18446744073709551616) (he : x / 4503599627370496 % 2048 ≠ 2047 ∧ 1023 < x / 4503599627370496 % 2048 + 127 ∧ x / 4503599627370496 % 2048 + 127 < 1023 + 256 - 1) (h9 : widV f32 (rnO f32 x) = x) (w : World) :
    Calls Tryz.prog 22 #[.int .u64 x, .int .i64 32] w fun e w' => e = .returned (.tuple #[.int .u64 (rnO f32 x : Nat), .bool true]) ∧ Below w.heap.size w w' := by
  have hiw := fun W => rIsWidth_calls 32 W
  change ∀ W, Calls _ _ _ _ fun e w' => e = .returned (.bool true) ∧ _ at hiw
  have hsz := rsizes32
  have hrl : rnO f32 x < 4294967296 := rnO_lt f32 (by first | exact .inl rfl | exact .inr rfl) hx
  have hO : rnO f32 x = rnO f32 x := rfl
  conv at hO => rhs; unfold rnO
  change rnO f32 x = (if x / 4503599627370496 % 2048 = 2047 then x / 9223372036854775808 * 2147483648 + 255 * 8388608 + x % 4503599627370496 / 536870912
    else if 1023 < x / 4503599627370496 % 2048 + 127 ∧ x / 4503599627370496 % 2048 + 127 < 1023 + 256 - 1 then x / 9223372036854775808 * 2147483648 + (x / 4503599627370496 % 2048 + 127 - 1023) * 8388608 + x % 4503599627370496 / 536870912
    else if 0 < x / 4503599627370496 % 2048 ∧ x / 4503599627370496 % 2048 + 127 ≤ 1023 ∧ 1023 < x / 4503599627370496 % 2048 + 127 + 23 then x / 9223372036854775808 * 2147483648 + (x % 4503599627370496 + 4503599627370496) / (536870912 * 2 ^ (1024 - 127 - x / 4503599627370496 % 2048))
    else x / 9223372036854775808 * 2147483648) at hO
  have hwd := fun W => rWiden_calls (rnO f32 x) (by omega) 32 W
  rw [show widS (rnO f32 x) 32 = widV f32 (rnO f32 x) from if_pos hrl] at hwd
  obtain ⟨we, hwe2⟩ : ∃ v, widE (rnO f32 x) 32 = v := ⟨_, rfl⟩
  rw [hwe2] at hwd
  clear hwe2 hrl
  obtain ⟨s, hs⟩ : ∃ s, x / 9223372036854775808 = s := ⟨_, rfl⟩
  have hsd : (x : Int) / 9223372036854775808 = (s : Int) := by omega
  have hs2 : s < 2 := by omega
  obtain ⟨q, hq⟩ : ∃ q, x / 4503599627370496 = q := ⟨_, rfl⟩
  have hqd : (x : Int) / 4503599627370496 = (q : Int) := by omega
  have e1 := and_mask (x := q) (n := 11) (by omega) 2047 (by decide) (by decide)
  have e2 := and_mask (x := x) (n := 52) hx 4503599627370495 (by decide) (by decide)
  change _ = ((q % 2048 : Nat) : Int) at e1
  change _ = ((x % 4503599627370496 : Nat) : Int) at e2
  rw [hq] at he hO
  rw [hs] at hO
  obtain ⟨e, hee⟩ : ∃ e, q % 2048 = e := ⟨_, rfl⟩
  obtain ⟨f, hf⟩ : ∃ f, x % 4503599627370496 = f := ⟨_, rfl⟩
  rw [hee] at he e1 hO
  rw [hf] at e2 hO
  have hfl : f < 4503599627370496 := by omega
  have hel : e < 2048 := by omega
  have hwe : IntKind.i64.wrap (e : Int) = (e : Int) := IntWalk.i64_in _ (by omega)
  obtain ⟨sv, hsv⟩ : ∃ v : Nat, s * 2147483648 = v := ⟨_, rfl⟩
  have hsm : (s : Int) * 2147483648 = (sv : Int) := by omega
  have hsw : IntKind.u64.wrap (sv : Int) = (sv : Int) := IntWalk.u64_in _ (by omega)
  rw [h9] at hwd
  obtain ⟨he1, he2, he3⟩ := he
  rw [if_neg he1, if_pos ⟨he2, he3⟩] at hO
  have heb : ((e : Int) == 2047) = false := by rw [beq_eq_false_iff_ne]; omega
  obtain ⟨E, hE⟩ : ∃ v : Nat, e + 127 - 1023 = v := ⟨_, rfl⟩
  rw [hE] at hO
  obtain ⟨y1, hy1⟩ : ∃ y : Int, (e : Int) - 1023 = y := ⟨_, rfl⟩
  have hy2 : y1 + 127 = (E : Int) := by omega
  have hyw1 : IntKind.i64.wrap y1 = y1 := IntWalk.i64_in _ (by omega)
  have hyw2 : IntKind.i64.wrap (E : Int) = (E : Int) := IntWalk.i64_in _ (by omega)
  have hyw3 : IntKind.u64.wrap (E : Int) = (E : Int) := IntWalk.u64_in _ (by omega)
  have hgt : (0 : Int) < (E : Int) := by omega
  have hlt : (E : Int) < 255 := by omega
  obtain ⟨ev, hev⟩ : ∃ v : Nat, E * 8388608 = v := ⟨_, rfl⟩
  have hem : (E : Int) * 8388608 = (ev : Int) := by omega
  have hew : IntKind.u64.wrap (ev : Int) = (ev : Int) := IntWalk.u64_in _ (by omega)
  obtain ⟨g, hg⟩ : ∃ v : Nat, f / 536870912 = v := ⟨_, rfl⟩
  have hgi : (f : Int) / 536870912 = (g : Int) := by omega
  obtain ⟨v1, hv1⟩ : ∃ v : Nat, sv + ev = v := ⟨_, rfl⟩
  obtain ⟨r, hr2⟩ : ∃ v : Nat, v1 + g = v := ⟨_, rfl⟩
  have k1 : (s * 256 + E) * 8388608 = v1 := by rw [ke32, hsv, hev, hv1]
  have hr : rnO f32 x = r := by rw [hO, hsv, hev, hg, hv1, hr2]
  have g2 := or_add (a := s * 256 + E) (b := g) (n := 23) (by omega) (by omega)
  have g1 := or_add (a := s) (b := ev) (n := 31) (by omega) (by omega)
  change bits .or .u64 ((s * 2147483648 : Nat) : Int) (ev : Int) = ((s * 2147483648 + ev : Nat) : Int) at g1
  rw [hsv, hv1] at g1
  change bits .or .u64 (((s * 256 + E) * 8388608 : Nat) : Int) (g : Int) = (((s * 256 + E) * 8388608 + g : Nat) : Int) at g2
  rw [k1, hr2] at g2
  rw [hr] at hwd ⊢
  clear hO hr hr2 hv1 k1 hg hsv hf hee hq hs hfl hel hs2 hx hev hE he1 he2 he3
  go_enter Tryz.func22, Tryz.ntmps22
  go_wp2_with fail
  refine (hiw _).mono ?_
  rintro e w1 ⟨rfl, rfl⟩
  go_wp2_with fail
  refine (hsz _).mono ?_
  rintro e w2 ⟨rfl, rfl⟩
  go_wp2
  go_quiet (fail)
  have hWq : Below w.heap.size w (w.drewN nq) := belowN (Below.refl _ _) nq
  generalize w.drewN nq = Z1 at *
  go_wp2_with fail
  refine (hwd _).mono ?_
  rintro e w3 ⟨rfl, hb3⟩
  have hW3 := hWq.trans (hb3.mono hWq.size)
  go_wp2
  go_ret2
  exact ⟨rfl, hW3⟩

set_option maxRecDepth 100000 in
set_option maxHeartbeats 4000000 in
theorem rnarrow32_sub_ok (x : Nat) (hx : x < 18446744073709551616) (he : x / 4503599627370496 % 2048 ≠ 2047 ∧ 0 < x / 4503599627370496 % 2048 ∧ x / 4503599627370496 % 2048 + 127 ≤ 1023 ∧ 1023 < x / 4503599627370496 % 2048 + 127 + 23) (h9 : widV f32 (rnO f32 x) = x) (w : World) :
    Calls Tryz.prog 22 #[.int .u64 x, .int .i64 32] w fun e w' => e = .returned (.tuple #[.int .u64 (rnO f32 x : Nat), .bool true]) ∧ Below w.heap.size w w' := by
  have hiw := fun W => rIsWidth_calls 32 W
  change ∀ W, Calls _ _ _ _ fun e w' => e = .returned (.bool true) ∧ _ at hiw
  have hsz := rsizes32
  have hrl : rnO f32 x < 4294967296 := rnO_lt f32 (by first | exact .inl rfl | exact .inr rfl) hx
  have hO : rnO f32 x = rnO f32 x := rfl
  conv at hO => rhs; unfold rnO
  change rnO f32 x = (if x / 4503599627370496 % 2048 = 2047 then x / 9223372036854775808 * 2147483648 + 255 * 8388608 + x % 4503599627370496 / 536870912
    else if 1023 < x / 4503599627370496 % 2048 + 127 ∧ x / 4503599627370496 % 2048 + 127 < 1023 + 256 - 1 then x / 9223372036854775808 * 2147483648 + (x / 4503599627370496 % 2048 + 127 - 1023) * 8388608 + x % 4503599627370496 / 536870912
    else if 0 < x / 4503599627370496 % 2048 ∧ x / 4503599627370496 % 2048 + 127 ≤ 1023 ∧ 1023 < x / 4503599627370496 % 2048 + 127 + 23 then x / 9223372036854775808 * 2147483648 + (x % 4503599627370496 + 4503599627370496) / (536870912 * 2 ^ (1024 - 127 - x / 4503599627370496 % 2048))
    else x / 9223372036854775808 * 2147483648) at hO
  have hwd := fun W => rWiden_calls (rnO f32 x) (by omega) 32 W
  rw [show widS (rnO f32 x) 32 = widV f32 (rnO f32 x) from if_pos hrl] at hwd
  obtain ⟨we, hwe2⟩ : ∃ v, widE (rnO f32 x) 32 = v := ⟨_, rfl⟩
  rw [hwe2] at hwd
  clear hwe2 hrl
  obtain ⟨s, hs⟩ : ∃ s, x / 9223372036854775808 = s := ⟨_, rfl⟩
  have hsd : (x : Int) / 9223372036854775808 = (s : Int) := by omega
  have hs2 : s < 2 := by omega
  obtain ⟨q, hq⟩ : ∃ q, x / 4503599627370496 = q := ⟨_, rfl⟩
  have hqd : (x : Int) / 4503599627370496 = (q : Int) := by omega
  have e1 := and_mask (x := q) (n := 11) (by omega) 2047 (by decide) (by decide)
  have e2 := and_mask (x := x) (n := 52) hx 4503599627370495 (by decide) (by decide)
  change _ = ((q % 2048 : Nat) : Int) at e1
  change _ = ((x % 4503599627370496 : Nat) : Int) at e2
  rw [hq] at he hO
  rw [hs] at hO
  obtain ⟨e, hee⟩ : ∃ e, q % 2048 = e := ⟨_, rfl⟩
  obtain ⟨f, hf⟩ : ∃ f, x % 4503599627370496 = f := ⟨_, rfl⟩
  rw [hee] at he e1 hO
  rw [hf] at e2 hO
  have hfl : f < 4503599627370496 := by omega
  have hel : e < 2048 := by omega
  have hwe : IntKind.i64.wrap (e : Int) = (e : Int) := IntWalk.i64_in _ (by omega)
  obtain ⟨sv, hsv⟩ : ∃ v : Nat, s * 2147483648 = v := ⟨_, rfl⟩
  have hsm : (s : Int) * 2147483648 = (sv : Int) := by omega
  have hsw : IntKind.u64.wrap (sv : Int) = (sv : Int) := IntWalk.u64_in _ (by omega)
  rw [h9] at hwd
  obtain ⟨he1, he2, he3, he4⟩ := he
  rw [if_neg he1, if_neg (by omega), if_pos ⟨he2, he3, he4⟩] at hO
  have heb : ((e : Int) == 2047) = false := by rw [beq_eq_false_iff_ne]; omega
  obtain ⟨y1, hy1⟩ : ∃ y : Int, (e : Int) - 1023 = y := ⟨_, rfl⟩
  obtain ⟨y2, hy2⟩ : ∃ y : Int, y1 + 127 = y := ⟨_, rfl⟩
  have hyw1 : IntKind.i64.wrap y1 = y1 := IntWalk.i64_in _ (by omega)
  have hyw2 : IntKind.i64.wrap y2 = y2 := IntWalk.i64_in _ (by omega)
  have hgt : ¬ (0 : Int) < y2 := by omega
  have hle : y2 ≤ 0 := by omega
  have hlo : -23 < y2 := by omega
  have he0 : (0 : Int) < (e : Int) := by omega
  obtain ⟨H, hH⟩ : ∃ v : Nat, 29 + (1024 - 127 - e) = v := ⟨_, rfl⟩
  have hHi : 30 - y2 = (H : Int) := by omega
  have hHw : IntKind.i64.wrap (H : Int) = (H : Int) := IntWalk.i64_in _ (by omega)
  have hH64 : (H : Int) ≤ 64 := by omega
  obtain ⟨PH, hPH⟩ : ∃ v : Nat, 2 ^ H = v := ⟨_, rfl⟩
  have hPi : (2 : Int) ^ H = (PH : Int) := by rw [pow_cast, hPH]
  have hD : 536870912 * 2 ^ (1024 - 127 - e) = PH := by
    rw [← hPH, ← hH, Nat.pow_add]
  rw [hD] at hO
  obtain ⟨fx, hfx⟩ : ∃ v : Nat, f + 4503599627370496 = v := ⟨_, rfl⟩
  have gx := or_add (a := 1) (b := f) (n := 52) hfl (by omega)
  change bits .or .u64 (4503599627370496 : Int) (f : Int) = ((4503599627370496 + f : Nat) : Int) at gx
  rw [Nat.add_comm, hfx] at gx
  rw [hfx] at hO
  obtain ⟨g, hg⟩ : ∃ v : Nat, fx / PH = v := ⟨_, rfl⟩
  have hgi : (fx : Int) / (PH : Int) = (g : Int) := by rw [← hg]; exact (Int.natCast_ediv fx PH).symm
  rw [hg] at hO
  have hgl : g < 2147483648 := by
    rw [← hg, Nat.div_lt_iff_lt_mul (by rw [← hPH]; exact Nat.pow_pos (by omega))]
    have h1 : 2 ^ 30 ≤ PH := by rw [← hPH]; exact pow_le (by omega)
    have h2 : 2147483648 * 2 ^ 30 ≤ 2147483648 * PH := Nat.mul_le_mul_left _ h1
    omega
  obtain ⟨r, hr2⟩ : ∃ v : Nat, sv + g = v := ⟨_, rfl⟩
  have hr : rnO f32 x = r := by rw [hO, hsv, hr2]
  have g1 := or_add (a := s) (b := g) (n := 31) hgl (by omega)
  change bits .or .u64 ((s * 2147483648 : Nat) : Int) (g : Int) = ((s * 2147483648 + g : Nat) : Int) at g1
  rw [hsv, hr2] at g1
  rw [hr] at hwd ⊢
  clear hO hr hr2 hg hsv hf hee hq hs hfl hel hs2 hx he1 he2 he3 he4 hH hPH hD hfx hgl
  go_enter Tryz.func22, Tryz.ntmps22
  go_wp2_with fail
  refine (hiw _).mono ?_
  rintro e w1 ⟨rfl, rfl⟩
  go_wp2_with fail
  refine (hsz _).mono ?_
  rintro e w2 ⟨rfl, rfl⟩
  have hWq : Below w.heap.size w w := Below.refl _ _
  go_wp2_with fail
  refine (hwd _).mono ?_
  rintro e w3 ⟨rfl, hb3⟩
  have hW3 := hWq.trans (hb3.mono hWq.size)
  go_wp2
  go_ret2
  exact ⟨rfl, hW3⟩

set_option maxRecDepth 100000 in
set_option maxHeartbeats 4000000 in
theorem rnarrow32_else_ok (x : Nat) (hx : x < 18446744073709551616) (he : x / 4503599627370496 % 2048 ≠ 2047 ∧ ¬ (1023 < x / 4503599627370496 % 2048 + 127 ∧ x / 4503599627370496 % 2048 + 127 < 1023 + 256 - 1) ∧ ¬ (0 < x / 4503599627370496 % 2048 ∧ x / 4503599627370496 % 2048 + 127 ≤ 1023 ∧ 1023 < x / 4503599627370496 % 2048 + 127 + 23)) (h9 : widV f32 (rnO f32 x) = x) (w : World) :
    Calls Tryz.prog 22 #[.int .u64 x, .int .i64 32] w fun e w' => e = .returned (.tuple #[.int .u64 (rnO f32 x : Nat), .bool true]) ∧ Below w.heap.size w w' := by
  have hiw := fun W => rIsWidth_calls 32 W
  change ∀ W, Calls _ _ _ _ fun e w' => e = .returned (.bool true) ∧ _ at hiw
  have hsz := rsizes32
  have hrl : rnO f32 x < 4294967296 := rnO_lt f32 (by first | exact .inl rfl | exact .inr rfl) hx
  have hO : rnO f32 x = rnO f32 x := rfl
  conv at hO => rhs; unfold rnO
  change rnO f32 x = (if x / 4503599627370496 % 2048 = 2047 then x / 9223372036854775808 * 2147483648 + 255 * 8388608 + x % 4503599627370496 / 536870912
    else if 1023 < x / 4503599627370496 % 2048 + 127 ∧ x / 4503599627370496 % 2048 + 127 < 1023 + 256 - 1 then x / 9223372036854775808 * 2147483648 + (x / 4503599627370496 % 2048 + 127 - 1023) * 8388608 + x % 4503599627370496 / 536870912
    else if 0 < x / 4503599627370496 % 2048 ∧ x / 4503599627370496 % 2048 + 127 ≤ 1023 ∧ 1023 < x / 4503599627370496 % 2048 + 127 + 23 then x / 9223372036854775808 * 2147483648 + (x % 4503599627370496 + 4503599627370496) / (536870912 * 2 ^ (1024 - 127 - x / 4503599627370496 % 2048))
    else x / 9223372036854775808 * 2147483648) at hO
  have hwd := fun W => rWiden_calls (rnO f32 x) (by omega) 32 W
  rw [show widS (rnO f32 x) 32 = widV f32 (rnO f32 x) from if_pos hrl] at hwd
  obtain ⟨we, hwe2⟩ : ∃ v, widE (rnO f32 x) 32 = v := ⟨_, rfl⟩
  rw [hwe2] at hwd
  clear hwe2 hrl
  obtain ⟨s, hs⟩ : ∃ s, x / 9223372036854775808 = s := ⟨_, rfl⟩
  have hsd : (x : Int) / 9223372036854775808 = (s : Int) := by omega
  have hs2 : s < 2 := by omega
  obtain ⟨q, hq⟩ : ∃ q, x / 4503599627370496 = q := ⟨_, rfl⟩
  have hqd : (x : Int) / 4503599627370496 = (q : Int) := by omega
  have e1 := and_mask (x := q) (n := 11) (by omega) 2047 (by decide) (by decide)
  have e2 := and_mask (x := x) (n := 52) hx 4503599627370495 (by decide) (by decide)
  change _ = ((q % 2048 : Nat) : Int) at e1
  change _ = ((x % 4503599627370496 : Nat) : Int) at e2
  rw [hq] at he hO
  rw [hs] at hO
  obtain ⟨e, hee⟩ : ∃ e, q % 2048 = e := ⟨_, rfl⟩
  obtain ⟨f, hf⟩ : ∃ f, x % 4503599627370496 = f := ⟨_, rfl⟩
  rw [hee] at he e1 hO
  rw [hf] at e2 hO
  have hfl : f < 4503599627370496 := by omega
  have hel : e < 2048 := by omega
  have hwe : IntKind.i64.wrap (e : Int) = (e : Int) := IntWalk.i64_in _ (by omega)
  obtain ⟨sv, hsv⟩ : ∃ v : Nat, s * 2147483648 = v := ⟨_, rfl⟩
  have hsm : (s : Int) * 2147483648 = (sv : Int) := by omega
  have hsw : IntKind.u64.wrap (sv : Int) = (sv : Int) := IntWalk.u64_in _ (by omega)
  rw [h9] at hwd
  obtain ⟨he1, he2, he3⟩ := he
  rw [if_neg he1, if_neg he2, if_neg he3] at hO
  have heb : ((e : Int) == 2047) = false := by rw [beq_eq_false_iff_ne]; omega
  obtain ⟨y1, hy1⟩ : ∃ y : Int, (e : Int) - 1023 = y := ⟨_, rfl⟩
  obtain ⟨y2, hy2⟩ : ∃ y : Int, y1 + 127 = y := ⟨_, rfl⟩
  have hyw1 : IntKind.i64.wrap y1 = y1 := IntWalk.i64_in _ (by omega)
  have hyw2 : IntKind.i64.wrap y2 = y2 := IntWalk.i64_in _ (by omega)
  have hc : ((0 : Int) < y2 ∧ ¬ y2 < 255 ∧ (0 : Int) < (e : Int) ∧ -23 < y2 ∧ ¬ y2 ≤ 0) ∨ (¬ (0 : Int) < y2 ∧ ¬ (0 : Int) < (e : Int)) ∨ (¬ (0 : Int) < y2 ∧ (0 : Int) < (e : Int) ∧ ¬ -23 < y2) := by omega
  obtain ⟨r, hr2⟩ : ∃ v : Nat, sv = v := ⟨_, rfl⟩
  have hr : rnO f32 x = r := by rw [hO]; omega
  rw [hr] at hwd ⊢
  rw [hr2] at hsm hsw
  clear hO hr hr2 hsv hf hee hq hs hfl hel hs2 hx he1 he2 he3 e2
  rcases hc with ⟨c1, c2, c3, c4, c5⟩ | ⟨c1, c2⟩ | ⟨c1, c2, c3⟩
  all_goals (
    go_enter Tryz.func22, Tryz.ntmps22
    go_wp2_with fail
    refine (hiw _).mono ?_
    rintro e w1 ⟨rfl, rfl⟩
    go_wp2_with fail
    refine (hsz _).mono ?_
    rintro e w2 ⟨rfl, rfl⟩
    have hWq : Below w.heap.size w w := Below.refl _ _
    go_wp2_with fail
    refine (hwd _).mono ?_
    rintro e w3 ⟨rfl, hb3⟩
    have hW3 := hWq.trans (hb3.mono hWq.size)
    go_wp2
    go_ret2
    exact ⟨rfl, hW3⟩)

set_option maxRecDepth 100000 in
set_option maxHeartbeats 4000000 in
theorem rnarrow32_top_no (x : Nat) (hx : x < 18446744073709551616) (he : x / 4503599627370496 % 2048 = 2047) (h9 : widV f32 (rnO f32 x) ≠ x) (w : World) :
    Calls Tryz.prog 22 #[.int .u64 x, .int .i64 32] w fun e w' => e = .returned (.tuple #[.int .u64 0, .bool false]) ∧ Below w.heap.size w w' := by
  have hiw := fun W => rIsWidth_calls 32 W
  change ∀ W, Calls _ _ _ _ fun e w' => e = .returned (.bool true) ∧ _ at hiw
  have hsz := rsizes32
  have hrl : rnO f32 x < 4294967296 := rnO_lt f32 (by first | exact .inl rfl | exact .inr rfl) hx
  have hO : rnO f32 x = rnO f32 x := rfl
  conv at hO => rhs; unfold rnO
  change rnO f32 x = (if x / 4503599627370496 % 2048 = 2047 then x / 9223372036854775808 * 2147483648 + 255 * 8388608 + x % 4503599627370496 / 536870912
    else if 1023 < x / 4503599627370496 % 2048 + 127 ∧ x / 4503599627370496 % 2048 + 127 < 1023 + 256 - 1 then x / 9223372036854775808 * 2147483648 + (x / 4503599627370496 % 2048 + 127 - 1023) * 8388608 + x % 4503599627370496 / 536870912
    else if 0 < x / 4503599627370496 % 2048 ∧ x / 4503599627370496 % 2048 + 127 ≤ 1023 ∧ 1023 < x / 4503599627370496 % 2048 + 127 + 23 then x / 9223372036854775808 * 2147483648 + (x % 4503599627370496 + 4503599627370496) / (536870912 * 2 ^ (1024 - 127 - x / 4503599627370496 % 2048))
    else x / 9223372036854775808 * 2147483648) at hO
  have hwd := fun W => rWiden_calls (rnO f32 x) (by omega) 32 W
  rw [show widS (rnO f32 x) 32 = widV f32 (rnO f32 x) from if_pos hrl] at hwd
  obtain ⟨we, hwe2⟩ : ∃ v, widE (rnO f32 x) 32 = v := ⟨_, rfl⟩
  rw [hwe2] at hwd
  clear hwe2 hrl
  obtain ⟨s, hs⟩ : ∃ s, x / 9223372036854775808 = s := ⟨_, rfl⟩
  have hsd : (x : Int) / 9223372036854775808 = (s : Int) := by omega
  have hs2 : s < 2 := by omega
  obtain ⟨q, hq⟩ : ∃ q, x / 4503599627370496 = q := ⟨_, rfl⟩
  have hqd : (x : Int) / 4503599627370496 = (q : Int) := by omega
  have e1 := and_mask (x := q) (n := 11) (by omega) 2047 (by decide) (by decide)
  have e2 := and_mask (x := x) (n := 52) hx 4503599627370495 (by decide) (by decide)
  change _ = ((q % 2048 : Nat) : Int) at e1
  change _ = ((x % 4503599627370496 : Nat) : Int) at e2
  rw [hq] at he hO
  rw [hs] at hO
  obtain ⟨e, hee⟩ : ∃ e, q % 2048 = e := ⟨_, rfl⟩
  obtain ⟨f, hf⟩ : ∃ f, x % 4503599627370496 = f := ⟨_, rfl⟩
  rw [hee] at he e1 hO
  rw [hf] at e2 hO
  have hfl : f < 4503599627370496 := by omega
  have hel : e < 2048 := by omega
  have hwe : IntKind.i64.wrap (e : Int) = (e : Int) := IntWalk.i64_in _ (by omega)
  obtain ⟨sv, hsv⟩ : ∃ v : Nat, s * 2147483648 = v := ⟨_, rfl⟩
  have hsm : (s : Int) * 2147483648 = (sv : Int) := by omega
  have hsw : IntKind.u64.wrap (sv : Int) = (sv : Int) := IntWalk.u64_in _ (by omega)
  obtain ⟨z, hz⟩ : ∃ z, widV f32 (rnO f32 x) = z := ⟨_, rfl⟩
  rw [hz] at hwd h9
  have hzx : ((z : Int) != (x : Int)) = true := by rw [bne_iff_ne]; omega
  clear h9 hz
  subst he
  rw [if_pos rfl] at hO
  obtain ⟨g, hg⟩ : ∃ v : Nat, f / 536870912 = v := ⟨_, rfl⟩
  have hgi : (f : Int) / 536870912 = (g : Int) := by omega
  obtain ⟨v1, hv1⟩ : ∃ v : Nat, sv + 2139095040 = v := ⟨_, rfl⟩
  obtain ⟨r, hr2⟩ : ∃ v : Nat, v1 + g = v := ⟨_, rfl⟩
  have k1 : (s * 256 + 255) * 8388608 = v1 := by rw [kt32, hsv, hv1]
  have hr : rnO f32 x = r := by rw [hO, hsv, hg, ← hr2, ← hv1] <;> rfl
  have g2 := or_add (a := s * 256 + 255) (b := g) (n := 23) (by omega) (by omega)
  have g1 := or_add (a := s) (b := 2139095040) (n := 31) (by decide) (by omega)
  change bits .or .u64 ((s * 2147483648 : Nat) : Int) 2139095040 = ((s * 2147483648 + 2139095040 : Nat) : Int) at g1
  rw [hsv, hv1] at g1
  change bits .or .u64 (((s * 256 + 255) * 8388608 : Nat) : Int) (g : Int) = (((s * 256 + 255) * 8388608 + g : Nat) : Int) at g2
  rw [k1, hr2] at g2
  rw [hr] at hwd
  clear hO hr hr2 hv1 k1 hg hsv hf hee hq hs hfl hel hs2 hx
  go_enter Tryz.func22, Tryz.ntmps22
  go_wp2_with fail
  refine (hiw _).mono ?_
  rintro e w1 ⟨rfl, rfl⟩
  go_wp2_with fail
  refine (hsz _).mono ?_
  rintro e w2 ⟨rfl, rfl⟩
  go_wp2
  go_quiet (fail)
  have hWq : Below w.heap.size w (w.drewN nq) := belowN (Below.refl _ _) nq
  generalize w.drewN nq = Z1 at *
  go_wp2_with fail
  refine (hwd _).mono ?_
  rintro e w3 ⟨rfl, hb3⟩
  have hW3 := hWq.trans (hb3.mono hWq.size)
  go_wp2
  go_ret2
  exact ⟨rfl, hW3⟩

set_option maxRecDepth 100000 in
set_option maxHeartbeats 4000000 in
theorem rnarrow32_main_no (x : Nat) (hx : x < 18446744073709551616) (he : x / 4503599627370496 % 2048 ≠ 2047 ∧ 1023 < x / 4503599627370496 % 2048 + 127 ∧ x / 4503599627370496 % 2048 + 127 < 1023 + 256 - 1) (h9 : widV f32 (rnO f32 x) ≠ x) (w : World) :
    Calls Tryz.prog 22 #[.int .u64 x, .int .i64 32] w fun e w' => e = .returned (.tuple #[.int .u64 0, .bool false]) ∧ Below w.heap.size w w' := by
  have hiw := fun W => rIsWidth_calls 32 W
  change ∀ W, Calls _ _ _ _ fun e w' => e = .returned (.bool true) ∧ _ at hiw
  have hsz := rsizes32
  have hrl : rnO f32 x < 4294967296 := rnO_lt f32 (by first | exact .inl rfl | exact .inr rfl) hx
  have hO : rnO f32 x = rnO f32 x := rfl
  conv at hO => rhs; unfold rnO
  change rnO f32 x = (if x / 4503599627370496 % 2048 = 2047 then x / 9223372036854775808 * 2147483648 + 255 * 8388608 + x % 4503599627370496 / 536870912
    else if 1023 < x / 4503599627370496 % 2048 + 127 ∧ x / 4503599627370496 % 2048 + 127 < 1023 + 256 - 1 then x / 9223372036854775808 * 2147483648 + (x / 4503599627370496 % 2048 + 127 - 1023) * 8388608 + x % 4503599627370496 / 536870912
    else if 0 < x / 4503599627370496 % 2048 ∧ x / 4503599627370496 % 2048 + 127 ≤ 1023 ∧ 1023 < x / 4503599627370496 % 2048 + 127 + 23 then x / 9223372036854775808 * 2147483648 + (x % 4503599627370496 + 4503599627370496) / (536870912 * 2 ^ (1024 - 127 - x / 4503599627370496 % 2048))
    else x / 9223372036854775808 * 2147483648) at hO
  have hwd := fun W => rWiden_calls (rnO f32 x) (by omega) 32 W
  rw [show widS (rnO f32 x) 32 = widV f32 (rnO f32 x) from if_pos hrl] at hwd
  obtain ⟨we, hwe2⟩ : ∃ v, widE (rnO f32 x) 32 = v := ⟨_, rfl⟩
  rw [hwe2] at hwd
  clear hwe2 hrl
  obtain ⟨s, hs⟩ : ∃ s, x / 9223372036854775808 = s := ⟨_, rfl⟩
  have hsd : (x : Int) / 9223372036854775808 = (s : Int) := by omega
  have hs2 : s < 2 := by omega
  obtain ⟨q, hq⟩ : ∃ q, x / 4503599627370496 = q := ⟨_, rfl⟩
  have hqd : (x : Int) / 4503599627370496 = (q : Int) := by omega
  have e1 := and_mask (x := q) (n := 11) (by omega) 2047 (by decide) (by decide)
  have e2 := and_mask (x := x) (n := 52) hx 4503599627370495 (by decide) (by decide)
  change _ = ((q % 2048 : Nat) : Int) at e1
  change _ = ((x % 4503599627370496 : Nat) : Int) at e2
  rw [hq] at he hO
  rw [hs] at hO
  obtain ⟨e, hee⟩ : ∃ e, q % 2048 = e := ⟨_, rfl⟩
  obtain ⟨f, hf⟩ : ∃ f, x % 4503599627370496 = f := ⟨_, rfl⟩
  rw [hee] at he e1 hO
  rw [hf] at e2 hO
  have hfl : f < 4503599627370496 := by omega
  have hel : e < 2048 := by omega
  have hwe : IntKind.i64.wrap (e : Int) = (e : Int) := IntWalk.i64_in _ (by omega)
  obtain ⟨sv, hsv⟩ : ∃ v : Nat, s * 2147483648 = v := ⟨_, rfl⟩
  have hsm : (s : Int) * 2147483648 = (sv : Int) := by omega
  have hsw : IntKind.u64.wrap (sv : Int) = (sv : Int) := IntWalk.u64_in _ (by omega)
  obtain ⟨z, hz⟩ : ∃ z, widV f32 (rnO f32 x) = z := ⟨_, rfl⟩
  rw [hz] at hwd h9
  have hzx : ((z : Int) != (x : Int)) = true := by rw [bne_iff_ne]; omega
  clear h9 hz
  obtain ⟨he1, he2, he3⟩ := he
  rw [if_neg he1, if_pos ⟨he2, he3⟩] at hO
  have heb : ((e : Int) == 2047) = false := by rw [beq_eq_false_iff_ne]; omega
  obtain ⟨E, hE⟩ : ∃ v : Nat, e + 127 - 1023 = v := ⟨_, rfl⟩
  rw [hE] at hO
  obtain ⟨y1, hy1⟩ : ∃ y : Int, (e : Int) - 1023 = y := ⟨_, rfl⟩
  have hy2 : y1 + 127 = (E : Int) := by omega
  have hyw1 : IntKind.i64.wrap y1 = y1 := IntWalk.i64_in _ (by omega)
  have hyw2 : IntKind.i64.wrap (E : Int) = (E : Int) := IntWalk.i64_in _ (by omega)
  have hyw3 : IntKind.u64.wrap (E : Int) = (E : Int) := IntWalk.u64_in _ (by omega)
  have hgt : (0 : Int) < (E : Int) := by omega
  have hlt : (E : Int) < 255 := by omega
  obtain ⟨ev, hev⟩ : ∃ v : Nat, E * 8388608 = v := ⟨_, rfl⟩
  have hem : (E : Int) * 8388608 = (ev : Int) := by omega
  have hew : IntKind.u64.wrap (ev : Int) = (ev : Int) := IntWalk.u64_in _ (by omega)
  obtain ⟨g, hg⟩ : ∃ v : Nat, f / 536870912 = v := ⟨_, rfl⟩
  have hgi : (f : Int) / 536870912 = (g : Int) := by omega
  obtain ⟨v1, hv1⟩ : ∃ v : Nat, sv + ev = v := ⟨_, rfl⟩
  obtain ⟨r, hr2⟩ : ∃ v : Nat, v1 + g = v := ⟨_, rfl⟩
  have k1 : (s * 256 + E) * 8388608 = v1 := by rw [ke32, hsv, hev, hv1]
  have hr : rnO f32 x = r := by rw [hO, hsv, hev, hg, hv1, hr2]
  have g2 := or_add (a := s * 256 + E) (b := g) (n := 23) (by omega) (by omega)
  have g1 := or_add (a := s) (b := ev) (n := 31) (by omega) (by omega)
  change bits .or .u64 ((s * 2147483648 : Nat) : Int) (ev : Int) = ((s * 2147483648 + ev : Nat) : Int) at g1
  rw [hsv, hv1] at g1
  change bits .or .u64 (((s * 256 + E) * 8388608 : Nat) : Int) (g : Int) = (((s * 256 + E) * 8388608 + g : Nat) : Int) at g2
  rw [k1, hr2] at g2
  rw [hr] at hwd
  clear hO hr hr2 hv1 k1 hg hsv hf hee hq hs hfl hel hs2 hx hev hE he1 he2 he3
  go_enter Tryz.func22, Tryz.ntmps22
  go_wp2_with fail
  refine (hiw _).mono ?_
  rintro e w1 ⟨rfl, rfl⟩
  go_wp2_with fail
  refine (hsz _).mono ?_
  rintro e w2 ⟨rfl, rfl⟩
  go_wp2
  go_quiet (fail)
  have hWq : Below w.heap.size w (w.drewN nq) := belowN (Below.refl _ _) nq
  generalize w.drewN nq = Z1 at *
  go_wp2_with fail
  refine (hwd _).mono ?_
  rintro e w3 ⟨rfl, hb3⟩
  have hW3 := hWq.trans (hb3.mono hWq.size)
  go_wp2
  go_ret2
  exact ⟨rfl, hW3⟩

set_option maxRecDepth 100000 in
set_option maxHeartbeats 4000000 in
theorem rnarrow32_sub_no (x : Nat) (hx : x < 18446744073709551616) (he : x / 4503599627370496 % 2048 ≠ 2047 ∧ 0 < x / 4503599627370496 % 2048 ∧ x / 4503599627370496 % 2048 + 127 ≤ 1023 ∧ 1023 < x / 4503599627370496 % 2048 + 127 + 23) (h9 : widV f32 (rnO f32 x) ≠ x) (w : World) :
    Calls Tryz.prog 22 #[.int .u64 x, .int .i64 32] w fun e w' => e = .returned (.tuple #[.int .u64 0, .bool false]) ∧ Below w.heap.size w w' := by
  have hiw := fun W => rIsWidth_calls 32 W
  change ∀ W, Calls _ _ _ _ fun e w' => e = .returned (.bool true) ∧ _ at hiw
  have hsz := rsizes32
  have hrl : rnO f32 x < 4294967296 := rnO_lt f32 (by first | exact .inl rfl | exact .inr rfl) hx
  have hO : rnO f32 x = rnO f32 x := rfl
  conv at hO => rhs; unfold rnO
  change rnO f32 x = (if x / 4503599627370496 % 2048 = 2047 then x / 9223372036854775808 * 2147483648 + 255 * 8388608 + x % 4503599627370496 / 536870912
    else if 1023 < x / 4503599627370496 % 2048 + 127 ∧ x / 4503599627370496 % 2048 + 127 < 1023 + 256 - 1 then x / 9223372036854775808 * 2147483648 + (x / 4503599627370496 % 2048 + 127 - 1023) * 8388608 + x % 4503599627370496 / 536870912
    else if 0 < x / 4503599627370496 % 2048 ∧ x / 4503599627370496 % 2048 + 127 ≤ 1023 ∧ 1023 < x / 4503599627370496 % 2048 + 127 + 23 then x / 9223372036854775808 * 2147483648 + (x % 4503599627370496 + 4503599627370496) / (536870912 * 2 ^ (1024 - 127 - x / 4503599627370496 % 2048))
    else x / 9223372036854775808 * 2147483648) at hO
  have hwd := fun W => rWiden_calls (rnO f32 x) (by omega) 32 W
  rw [show widS (rnO f32 x) 32 = widV f32 (rnO f32 x) from if_pos hrl] at hwd
  obtain ⟨we, hwe2⟩ : ∃ v, widE (rnO f32 x) 32 = v := ⟨_, rfl⟩
  rw [hwe2] at hwd
  clear hwe2 hrl
  obtain ⟨s, hs⟩ : ∃ s, x / 9223372036854775808 = s := ⟨_, rfl⟩
  have hsd : (x : Int) / 9223372036854775808 = (s : Int) := by omega
  have hs2 : s < 2 := by omega
  obtain ⟨q, hq⟩ : ∃ q, x / 4503599627370496 = q := ⟨_, rfl⟩
  have hqd : (x : Int) / 4503599627370496 = (q : Int) := by omega
  have e1 := and_mask (x := q) (n := 11) (by omega) 2047 (by decide) (by decide)
  have e2 := and_mask (x := x) (n := 52) hx 4503599627370495 (by decide) (by decide)
  change _ = ((q % 2048 : Nat) : Int) at e1
  change _ = ((x % 4503599627370496 : Nat) : Int) at e2
  rw [hq] at he hO
  rw [hs] at hO
  obtain ⟨e, hee⟩ : ∃ e, q % 2048 = e := ⟨_, rfl⟩
  obtain ⟨f, hf⟩ : ∃ f, x % 4503599627370496 = f := ⟨_, rfl⟩
  rw [hee] at he e1 hO
  rw [hf] at e2 hO
  have hfl : f < 4503599627370496 := by omega
  have hel : e < 2048 := by omega
  have hwe : IntKind.i64.wrap (e : Int) = (e : Int) := IntWalk.i64_in _ (by omega)
  obtain ⟨sv, hsv⟩ : ∃ v : Nat, s * 2147483648 = v := ⟨_, rfl⟩
  have hsm : (s : Int) * 2147483648 = (sv : Int) := by omega
  have hsw : IntKind.u64.wrap (sv : Int) = (sv : Int) := IntWalk.u64_in _ (by omega)
  obtain ⟨z, hz⟩ : ∃ z, widV f32 (rnO f32 x) = z := ⟨_, rfl⟩
  rw [hz] at hwd h9
  have hzx : ((z : Int) != (x : Int)) = true := by rw [bne_iff_ne]; omega
  clear h9 hz
  obtain ⟨he1, he2, he3, he4⟩ := he
  rw [if_neg he1, if_neg (by omega), if_pos ⟨he2, he3, he4⟩] at hO
  have heb : ((e : Int) == 2047) = false := by rw [beq_eq_false_iff_ne]; omega
  obtain ⟨y1, hy1⟩ : ∃ y : Int, (e : Int) - 1023 = y := ⟨_, rfl⟩
  obtain ⟨y2, hy2⟩ : ∃ y : Int, y1 + 127 = y := ⟨_, rfl⟩
  have hyw1 : IntKind.i64.wrap y1 = y1 := IntWalk.i64_in _ (by omega)
  have hyw2 : IntKind.i64.wrap y2 = y2 := IntWalk.i64_in _ (by omega)
  have hgt : ¬ (0 : Int) < y2 := by omega
  have hle : y2 ≤ 0 := by omega
  have hlo : -23 < y2 := by omega
  have he0 : (0 : Int) < (e : Int) := by omega
  obtain ⟨H, hH⟩ : ∃ v : Nat, 29 + (1024 - 127 - e) = v := ⟨_, rfl⟩
  have hHi : 30 - y2 = (H : Int) := by omega
  have hHw : IntKind.i64.wrap (H : Int) = (H : Int) := IntWalk.i64_in _ (by omega)
  have hH64 : (H : Int) ≤ 64 := by omega
  obtain ⟨PH, hPH⟩ : ∃ v : Nat, 2 ^ H = v := ⟨_, rfl⟩
  have hPi : (2 : Int) ^ H = (PH : Int) := by rw [pow_cast, hPH]
  have hD : 536870912 * 2 ^ (1024 - 127 - e) = PH := by
    rw [← hPH, ← hH, Nat.pow_add]
  rw [hD] at hO
  obtain ⟨fx, hfx⟩ : ∃ v : Nat, f + 4503599627370496 = v := ⟨_, rfl⟩
  have gx := or_add (a := 1) (b := f) (n := 52) hfl (by omega)
  change bits .or .u64 (4503599627370496 : Int) (f : Int) = ((4503599627370496 + f : Nat) : Int) at gx
  rw [Nat.add_comm, hfx] at gx
  rw [hfx] at hO
  obtain ⟨g, hg⟩ : ∃ v : Nat, fx / PH = v := ⟨_, rfl⟩
  have hgi : (fx : Int) / (PH : Int) = (g : Int) := by rw [← hg]; exact (Int.natCast_ediv fx PH).symm
  rw [hg] at hO
  have hgl : g < 2147483648 := by
    rw [← hg, Nat.div_lt_iff_lt_mul (by rw [← hPH]; exact Nat.pow_pos (by omega))]
    have h1 : 2 ^ 30 ≤ PH := by rw [← hPH]; exact pow_le (by omega)
    have h2 : 2147483648 * 2 ^ 30 ≤ 2147483648 * PH := Nat.mul_le_mul_left _ h1
    omega
  obtain ⟨r, hr2⟩ : ∃ v : Nat, sv + g = v := ⟨_, rfl⟩
  have hr : rnO f32 x = r := by rw [hO, hsv, hr2]
  have g1 := or_add (a := s) (b := g) (n := 31) hgl (by omega)
  change bits .or .u64 ((s * 2147483648 : Nat) : Int) (g : Int) = ((s * 2147483648 + g : Nat) : Int) at g1
  rw [hsv, hr2] at g1
  rw [hr] at hwd
  clear hO hr hr2 hg hsv hf hee hq hs hfl hel hs2 hx he1 he2 he3 he4 hH hPH hD hfx hgl
  go_enter Tryz.func22, Tryz.ntmps22
  go_wp2_with fail
  refine (hiw _).mono ?_
  rintro e w1 ⟨rfl, rfl⟩
  go_wp2_with fail
  refine (hsz _).mono ?_
  rintro e w2 ⟨rfl, rfl⟩
  have hWq : Below w.heap.size w w := Below.refl _ _
  go_wp2_with fail
  refine (hwd _).mono ?_
  rintro e w3 ⟨rfl, hb3⟩
  have hW3 := hWq.trans (hb3.mono hWq.size)
  go_wp2
  go_ret2
  exact ⟨rfl, hW3⟩

set_option maxRecDepth 100000 in
set_option maxHeartbeats 4000000 in
theorem rnarrow32_else_no (x : Nat) (hx : x < 18446744073709551616) (he : x / 4503599627370496 % 2048 ≠ 2047 ∧ ¬ (1023 < x / 4503599627370496 % 2048 + 127 ∧ x / 4503599627370496 % 2048 + 127 < 1023 + 256 - 1) ∧ ¬ (0 < x / 4503599627370496 % 2048 ∧ x / 4503599627370496 % 2048 + 127 ≤ 1023 ∧ 1023 < x / 4503599627370496 % 2048 + 127 + 23)) (h9 : widV f32 (rnO f32 x) ≠ x) (w : World) :
    Calls Tryz.prog 22 #[.int .u64 x, .int .i64 32] w fun e w' => e = .returned (.tuple #[.int .u64 0, .bool false]) ∧ Below w.heap.size w w' := by
  have hiw := fun W => rIsWidth_calls 32 W
  change ∀ W, Calls _ _ _ _ fun e w' => e = .returned (.bool true) ∧ _ at hiw
  have hsz := rsizes32
  have hrl : rnO f32 x < 4294967296 := rnO_lt f32 (by first | exact .inl rfl | exact .inr rfl) hx
  have hO : rnO f32 x = rnO f32 x := rfl
  conv at hO => rhs; unfold rnO
  change rnO f32 x = (if x / 4503599627370496 % 2048 = 2047 then x / 9223372036854775808 * 2147483648 + 255 * 8388608 + x % 4503599627370496 / 536870912
    else if 1023 < x / 4503599627370496 % 2048 + 127 ∧ x / 4503599627370496 % 2048 + 127 < 1023 + 256 - 1 then x / 9223372036854775808 * 2147483648 + (x / 4503599627370496 % 2048 + 127 - 1023) * 8388608 + x % 4503599627370496 / 536870912
    else if 0 < x / 4503599627370496 % 2048 ∧ x / 4503599627370496 % 2048 + 127 ≤ 1023 ∧ 1023 < x / 4503599627370496 % 2048 + 127 + 23 then x / 9223372036854775808 * 2147483648 + (x % 4503599627370496 + 4503599627370496) / (536870912 * 2 ^ (1024 - 127 - x / 4503599627370496 % 2048))
    else x / 9223372036854775808 * 2147483648) at hO
  have hwd := fun W => rWiden_calls (rnO f32 x) (by omega) 32 W
  rw [show widS (rnO f32 x) 32 = widV f32 (rnO f32 x) from if_pos hrl] at hwd
  obtain ⟨we, hwe2⟩ : ∃ v, widE (rnO f32 x) 32 = v := ⟨_, rfl⟩
  rw [hwe2] at hwd
  clear hwe2 hrl
  obtain ⟨s, hs⟩ : ∃ s, x / 9223372036854775808 = s := ⟨_, rfl⟩
  have hsd : (x : Int) / 9223372036854775808 = (s : Int) := by omega
  have hs2 : s < 2 := by omega
  obtain ⟨q, hq⟩ : ∃ q, x / 4503599627370496 = q := ⟨_, rfl⟩
  have hqd : (x : Int) / 4503599627370496 = (q : Int) := by omega
  have e1 := and_mask (x := q) (n := 11) (by omega) 2047 (by decide) (by decide)
  have e2 := and_mask (x := x) (n := 52) hx 4503599627370495 (by decide) (by decide)
  change _ = ((q % 2048 : Nat) : Int) at e1
  change _ = ((x % 4503599627370496 : Nat) : Int) at e2
  rw [hq] at he hO
  rw [hs] at hO
  obtain ⟨e, hee⟩ : ∃ e, q % 2048 = e := ⟨_, rfl⟩
  obtain ⟨f, hf⟩ : ∃ f, x % 4503599627370496 = f := ⟨_, rfl⟩
  rw [hee] at he e1 hO
  rw [hf] at e2 hO
  have hfl : f < 4503599627370496 := by omega
  have hel : e < 2048 := by omega
  have hwe : IntKind.i64.wrap (e : Int) = (e : Int) := IntWalk.i64_in _ (by omega)
  obtain ⟨sv, hsv⟩ : ∃ v : Nat, s * 2147483648 = v := ⟨_, rfl⟩
  have hsm : (s : Int) * 2147483648 = (sv : Int) := by omega
  have hsw : IntKind.u64.wrap (sv : Int) = (sv : Int) := IntWalk.u64_in _ (by omega)
  obtain ⟨z, hz⟩ : ∃ z, widV f32 (rnO f32 x) = z := ⟨_, rfl⟩
  rw [hz] at hwd h9
  have hzx : ((z : Int) != (x : Int)) = true := by rw [bne_iff_ne]; omega
  clear h9 hz
  obtain ⟨he1, he2, he3⟩ := he
  rw [if_neg he1, if_neg he2, if_neg he3] at hO
  have heb : ((e : Int) == 2047) = false := by rw [beq_eq_false_iff_ne]; omega
  obtain ⟨y1, hy1⟩ : ∃ y : Int, (e : Int) - 1023 = y := ⟨_, rfl⟩
  obtain ⟨y2, hy2⟩ : ∃ y : Int, y1 + 127 = y := ⟨_, rfl⟩
  have hyw1 : IntKind.i64.wrap y1 = y1 := IntWalk.i64_in _ (by omega)
  have hyw2 : IntKind.i64.wrap y2 = y2 := IntWalk.i64_in _ (by omega)
  have hc : ((0 : Int) < y2 ∧ ¬ y2 < 255 ∧ (0 : Int) < (e : Int) ∧ -23 < y2 ∧ ¬ y2 ≤ 0) ∨ (¬ (0 : Int) < y2 ∧ ¬ (0 : Int) < (e : Int)) ∨ (¬ (0 : Int) < y2 ∧ (0 : Int) < (e : Int) ∧ ¬ -23 < y2) := by omega
  obtain ⟨r, hr2⟩ : ∃ v : Nat, sv = v := ⟨_, rfl⟩
  have hr : rnO f32 x = r := by rw [hO]; omega
  rw [hr] at hwd
  rw [hr2] at hsm hsw
  clear hO hr hr2 hsv hf hee hq hs hfl hel hs2 hx he1 he2 he3 e2
  rcases hc with ⟨c1, c2, c3, c4, c5⟩ | ⟨c1, c2⟩ | ⟨c1, c2, c3⟩
  all_goals (
    go_enter Tryz.func22, Tryz.ntmps22
    go_wp2_with fail
    refine (hiw _).mono ?_
    rintro e w1 ⟨rfl, rfl⟩
    go_wp2_with fail
    refine (hsz _).mono ?_
    rintro e w2 ⟨rfl, rfl⟩
    have hWq : Below w.heap.size w w := Below.refl _ _
    go_wp2_with fail
    refine (hwd _).mono ?_
    rintro e w3 ⟨rfl, hb3⟩
    have hW3 := hWq.trans (hb3.mono hWq.size)
    go_wp2
    go_ret2
    exact ⟨rfl, hW3⟩)

theorem rNarrow_calls (b : Nat) (hb : b < 18446744073709551616) (x : Int) (w : World) :
    Calls Tryz.prog 22 #[.int .u64 b, .int .i64 x] w fun e w' => e = .returned (.tuple #[.int .u64 (narS b x : Nat), .bool (narB b x)]) ∧ Below w.heap.size w w' := by
  cases hx : isW x with
  | false =>
    obtain ⟨n1, n2, n3, n4⟩ := notW (b := b) hx
    rw [n3, n4]
    exact rnarrow_none b x hx w
  | true =>
    rcases isW_cases hx with rfl | rfl | rfl
    · have s1 : narS b 16 = (narV f16 b).getD 0 := rfl
      have s2 : narB b 16 = (narV f16 b).isSome := rfl
      rw [s1, s2]
      rcases rnar_plain f16 (by first | exact .inl rfl | exact .inr rfl) hb with ⟨h9, g1, g2⟩ | ⟨h9, g1, g2⟩
      · rw [g1, g2]
        by_cases h1 : b / 4503599627370496 % 2048 = 2047
        · exact rnarrow16_top_ok b hb h1 h9 w
        · by_cases h2 : 1023 < b / 4503599627370496 % 2048 + 15 ∧ b / 4503599627370496 % 2048 + 15 < 1023 + 32 - 1
          · exact rnarrow16_main_ok b hb ⟨h1, h2⟩ h9 w
          · by_cases h3 : 0 < b / 4503599627370496 % 2048 ∧ b / 4503599627370496 % 2048 + 15 ≤ 1023 ∧ 1023 < b / 4503599627370496 % 2048 + 15 + 10
            · exact rnarrow16_sub_ok b hb ⟨h1, h3⟩ h9 w
            · exact rnarrow16_else_ok b hb ⟨h1, h2, h3⟩ h9 w
      · rw [g1, g2]
        by_cases h1 : b / 4503599627370496 % 2048 = 2047
        · exact rnarrow16_top_no b hb h1 h9 w
        · by_cases h2 : 1023 < b / 4503599627370496 % 2048 + 15 ∧ b / 4503599627370496 % 2048 + 15 < 1023 + 32 - 1
          · exact rnarrow16_main_no b hb ⟨h1, h2⟩ h9 w
          · by_cases h3 : 0 < b / 4503599627370496 % 2048 ∧ b / 4503599627370496 % 2048 + 15 ≤ 1023 ∧ 1023 < b / 4503599627370496 % 2048 + 15 + 10
            · exact rnarrow16_sub_no b hb ⟨h1, h3⟩ h9 w
            · exact rnarrow16_else_no b hb ⟨h1, h2, h3⟩ h9 w
    · have s1 : narS b 32 = (narV f32 b).getD 0 := rfl
      have s2 : narB b 32 = (narV f32 b).isSome := rfl
      rw [s1, s2]
      rcases rnar_plain f32 (by first | exact .inl rfl | exact .inr rfl) hb with ⟨h9, g1, g2⟩ | ⟨h9, g1, g2⟩
      · rw [g1, g2]
        by_cases h1 : b / 4503599627370496 % 2048 = 2047
        · exact rnarrow32_top_ok b hb h1 h9 w
        · by_cases h2 : 1023 < b / 4503599627370496 % 2048 + 127 ∧ b / 4503599627370496 % 2048 + 127 < 1023 + 256 - 1
          · exact rnarrow32_main_ok b hb ⟨h1, h2⟩ h9 w
          · by_cases h3 : 0 < b / 4503599627370496 % 2048 ∧ b / 4503599627370496 % 2048 + 127 ≤ 1023 ∧ 1023 < b / 4503599627370496 % 2048 + 127 + 23
            · exact rnarrow32_sub_ok b hb ⟨h1, h3⟩ h9 w
            · exact rnarrow32_else_ok b hb ⟨h1, h2, h3⟩ h9 w
      · rw [g1, g2]
        by_cases h1 : b / 4503599627370496 % 2048 = 2047
        · exact rnarrow32_top_no b hb h1 h9 w
        · by_cases h2 : 1023 < b / 4503599627370496 % 2048 + 127 ∧ b / 4503599627370496 % 2048 + 127 < 1023 + 256 - 1
          · exact rnarrow32_main_no b hb ⟨h1, h2⟩ h9 w
          · by_cases h3 : 0 < b / 4503599627370496 % 2048 ∧ b / 4503599627370496 % 2048 + 127 ≤ 1023 ∧ 1023 < b / 4503599627370496 % 2048 + 127 + 23
            · exact rnarrow32_sub_no b hb ⟨h1, h3⟩ h9 w
            · exact rnarrow32_else_no b hb ⟨h1, h2, h3⟩ h9 w
    · exact rnarrow_64 b w

theorem rLeast_calls (b : Nat) (hb : b < 18446744073709551616) (w : World) :
    Calls Tryz.prog 25 #[.int .u64 b] w fun e w' => e = .returned (.int .i64 (leastS b)) ∧ Below w.heap.size w w' := by
  have h1 := fun W => rNarrow_calls b hb 16 W
  have h2 := fun W => rNarrow_calls b hb 32 W
  have hl : leastS b = if narB b 16 then 16 else if narB b 32 then 32 else 64 := rfl
  obtain ⟨v1, g1⟩ : ∃ v, narS b 16 = v := ⟨_, rfl⟩
  obtain ⟨v2, g2⟩ : ∃ v, narS b 32 = v := ⟨_, rfl⟩
  obtain ⟨b1, f1⟩ : ∃ v, narB b 16 = v := ⟨_, rfl⟩
  obtain ⟨b2, f2⟩ : ∃ v, narB b 32 = v := ⟨_, rfl⟩
  rw [g1, f1] at h1
  rw [g2, f2] at h2
  rw [f1, f2] at hl
  rw [hl]
  clear g1 g2 f1 f2 hl hb
  have hc : b1 = true ∨ (b1 = false ∧ b2 = true) ∨ (b1 = false ∧ b2 = false) := by cases b1 <;> cases b2 <;> simp
  rcases hc with rfl | ⟨rfl, rfl⟩ | ⟨rfl, rfl⟩
  all_goals (
    go_enter Tryz.func25, Tryz.ntmps25
    go_wp2_with fail
    refine (h1 _).mono ?_
    rintro e w1 ⟨rfl, hb1⟩
    go_wp2_with fail
    refine (h2 _).mono ?_
    rintro e w2 ⟨rfl, hb2⟩
    have hW2 := hb1.trans (hb2.mono hb1.size)
    go_wp2
    go_ret
    exact ⟨rfl, hW2⟩)
end Go.Proofs.YtfobaeoccpebeaaGreatDoor

