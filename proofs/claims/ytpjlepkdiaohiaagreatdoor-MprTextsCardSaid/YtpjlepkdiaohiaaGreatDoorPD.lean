/- PD: FlA FlB FlC FlD FlE. -/
import Derived.Test.YtpjlepkdiaohiaaGreatDoorPA
import Derived.Test.YtpjlepkdiaohiaaGreatDoorPC
import Derived.Laws.Bits64
import Derived.Laws.StructEq
import Derived.Deep.RegionHeld3
import Derived.Lib.OthersKept
import Derived.StillTailTactics
import Derived.RangeFuncNested
import Derived.RangeFuncBound
import Derived.RangeFuncCalls
import Derived.RangeFuncLeaves
import Derived.Shelf.Abstract
import Derived.Shelf.RegionOpen
import Derived.OwnWalkIn
import Derived.TacticsInMore
import Derived.LoopNIn
import Derived.LoopIn
import Derived.Deep.RegionWith
/- Package float: forms, wide, ones, bias, parts, joined: walked. -/
namespace Go.Proofs.YtpjlepkdiaohiaaGreatDoor
open Go.RowKit
attribute [local go_sem] Oper.semAt_some

/-- a width's form. -/
def FV (p k w : Int) : Value := .agg #[.int .i64 p, .int .i64 k, .int .i64 w]

theorem same_flip {f : FuncId} {args : Array Value} {w : World} {v : Value} (h : Calls Tryz.prog f args w fun e w' => e = .returned v ∧ w = w') : Calls Tryz.prog f args w fun e w' => e = .returned v ∧ w' = w := h.mono fun _ _ ⟨a, b⟩ => ⟨a, b.symm⟩
theorem pow_cast (n : Nat) : (2 : Int) ^ n = ((2 ^ n : Nat) : Int) := by rw [Int.natCast_pow]; rfl
theorem pow63 {n : Nat} (h : n ≤ 63) : 2 ^ n ≤ 9223372036854775808 := Nat.le_trans (Nat.pow_le_pow_right (by omega) h) (by decide)

theorem ones_calls (n : Nat) (hn : n ≤ 63) (w : World) :
    Calls Tryz.prog 132 #[.int .i64 n] w fun e w' => e = .returned (.int .u64 (2 ^ n - 1 : Nat)) ∧ w = w' := by
  obtain ⟨P, hP⟩ : ∃ P : Nat, 2 ^ n = P := ⟨_, rfl⟩
  have hP1 : 1 ≤ P := by rw [← hP]; exact Nat.pow_pos (by omega)
  have hP2 := pow63 hn
  rw [hP] at hP2 ⊢
  have hpi : (2 : Int) ^ n = (P : Int) := by rw [pow_cast, hP]
  have hw1 : IntKind.u64.wrap (P : Int) = (P : Int) := IntWalk.u64_in _ (by omega)
  have hw2 : IntKind.u64.wrap ((P : Int) - 1) = (P : Int) - 1 := IntWalk.u64_in _ (by omega)
  have HC := hid (show ((P - 1 : Nat) : Int) = (P : Int) - 1 by omega)
  have hn2 : (n : Int) ≤ 64 := by omega
  clear hP hP2
  go_enter Tryz.func132, Tryz.ntmps132
  go_wp2
  go_ret
  exact ⟨by rw [HC.out] <;> rfl, rfl⟩

set_option maxRecDepth 100000 in
theorem forms_calls (w : World) :
    Calls Tryz.prog 157 #[] w fun e w' => e = .returned (.agg #[.int .i64 10, .int .i64 5, .int .i64 16, .int .i64 23, .int .i64 8, .int .i64 32, .int .i64 52, .int .i64 11, .int .i64 64]) ∧ Below w.heap.size w w' := by
  have hC := Cls.new w 189 [.int .i64 10, .int .i64 5, .int .i64 16, .int .i64 23, .int .i64 8, .int .i64 32, .int .i64 52, .int .i64 11, .int .i64 64]
  go_enter Tryz.func157, Tryz.ntmps157
  go_wp2
  have f0 := hC.cell 0 rfl
  have f1 := hC.cell 1 rfl
  have f2 := hC.cell 2 rfl
  have f3 := hC.cell 3 rfl
  have f4 := hC.cell 4 rfl
  have f5 := hC.cell 5 rfl
  have f6 := hC.cell 6 rfl
  have f7 := hC.cell 7 rfl
  have f8 := hC.cell 8 rfl
  exact bodyPost_ret (v := .agg #[.int .i64 10, .int .i64 5, .int .i64 16, .int .i64 23, .int .i64 8, .int .i64 32, .int .i64 52, .int .i64 11, .int .i64 64]) (by simp [results, Tryz.results157, go_sem, f0, f1, f2, f3, f4, f5, f6, f7, f8]) rfl ⟨rfl, below_alloc _ _⟩

/-- the forms, as they lie in an array by value. -/
theorem idx_form (w : World) : (Instr.index 189 (.agg #[.int .i64 10, .int .i64 5, .int .i64 16, .int .i64 23, .int .i64 8, .int .i64 32, .int .i64 52, .int .i64 11, .int .i64 64]) (.int .i64 0)).run Tryz.prog w = .ok (.agg #[.int .i64 10, .int .i64 5, .int .i64 16]) w ∧
    (Instr.index 189 (.agg #[.int .i64 10, .int .i64 5, .int .i64 16, .int .i64 23, .int .i64 8, .int .i64 32, .int .i64 52, .int .i64 11, .int .i64 64]) (.int .i64 1)).run Tryz.prog w = .ok (.agg #[.int .i64 23, .int .i64 8, .int .i64 32]) w ∧
    (Instr.index 189 (.agg #[.int .i64 10, .int .i64 5, .int .i64 16, .int .i64 23, .int .i64 8, .int .i64 32, .int .i64 52, .int .i64 11, .int .i64 64]) (.int .i64 2)).run Tryz.prog w = .ok (.agg #[.int .i64 52, .int .i64 11, .int .i64 64]) w := by
  have h := Tryz.underlying189
  have a := Tryz.isAgg167
  have z := Tryz.sizeOf167
  refine ⟨?_, ?_, ?_⟩ <;> simp [Instr.index, run_underlying h, asIntOf, go_sem, a, z]

set_option maxRecDepth 100000 in
theorem wide_calls (w : World) :
    Calls Tryz.prog 130 #[] w fun e w' => e = .returned (.agg #[.int .i64 52, .int .i64 11, .int .i64 64]) ∧ Below w.heap.size w w' := by
  have hC := Cls.new w 167 [.int .i64 0, .int .i64 0, .int .i64 0]
  have hA := below_alloc w (.cells #[.int .i64 0, .int .i64 0, .int .i64 0] 167)
  have hix := fun W => (idx_form W).2.2
  go_enter Tryz.func130, Tryz.ntmps130
  go_wp2_with fail
  refine (forms_calls _).mono ?_
  rintro e w1 ⟨rfl, hb1⟩
  have hC1 := hC.below hb1
  have hW1 := hA.trans (hb1.mono hA.size)
  have c0 := hC1.cell 0 rfl
  have c1 := hC1.cell 1 rfl
  have c2 := hC1.cell 2 rfl
  have z0 := hC1.frozen 0
  have z1 := hC1.frozen 1
  have z2 := hC1.frozen 2
  go_wp2
  have hF := ((hC1.set 0 (.int .i64 52)).set 1 (.int .i64 11)).set 2 (.int .i64 64)
  have f0 := hF.cell 0 rfl
  have f1 := hF.cell 1 rfl
  have f2 := hF.cell 2 rfl
  have hbF := ((hW1.setCell (p := ⟨w.heap.size, 0, none⟩) (Nat.le_refl _) (.int .i64 52)).setCell (p := ⟨w.heap.size, 1, none⟩) (Nat.le_refl _) (.int .i64 11)).setCell (p := ⟨w.heap.size, 2, none⟩) (Nat.le_refl _) (.int .i64 64)
  exact bodyPost_ret (v := .agg #[.int .i64 52, .int .i64 11, .int .i64 64]) (by simp [results, Tryz.results130, go_sem, f0, f1, f2]) rfl ⟨rfl, hbF⟩

theorem and_mask {x n : Nat} (hx : x < 18446744073709551616) (m : Int) (hm : m = (2 ^ n - 1 : Nat)) (hn : n ≤ 63) : bits .and .u64 (x : Int) m = ((x % 2 ^ n : Nat) : Int) := by
  have := pow63 hn
  rw [hm, u64_and_nat x (2 ^ n - 1) hx (by omega), Nat.and_two_pow_sub_one_eq_mod]
theorem or_add {a b n : Nat} (hb : b < 2 ^ n) (ha : a * 2 ^ n + b < 18446744073709551616) : bits .or .u64 ((a * 2 ^ n : Nat) : Int) (b : Int) = ((a * 2 ^ n + b : Nat) : Int) := by
  rw [u64_or_nat _ _ (by omega) (by omega), ← Nat.shiftLeft_eq, Nat.shiftLeft_add_eq_or_of_lt hb]

theorem bias16_calls (w : World) :
    Calls Tryz.prog 134 #[.agg #[.int .i64 10, .int .i64 5, .int .i64 16]] w fun e w' => e = .returned (.int .i64 15) ∧ Below w.heap.size w w' := by
  have ho := fun W => ones_calls 4 (by decide) W
  change ∀ W, Calls _ _ #[.int .i64 4] _ fun e w' => e = .returned (.int .u64 15) ∧ _ at ho
  go_enter Tryz.func134, Tryz.ntmps134
  go_wp2_with fail
  refine (ho _).mono ?_
  rintro e w1 ⟨rfl, rfl⟩
  go_wp2
  go_ret
  exact ⟨rfl, below_alloc _ _⟩

set_option maxRecDepth 100000 in
theorem parts16_calls (b : Nat) (hb : b < 18446744073709551616) (w : World) :
    Calls Tryz.prog 131 #[.agg #[.int .i64 10, .int .i64 5, .int .i64 16], .int .u64 b] w fun e w' => e = .returned (.tuple #[.int .u64 (b / 32768 % 2 : Nat), .int .i64 (b / 1024 % 32 : Nat), .int .u64 (b % 1024 : Nat)]) ∧ Below w.heap.size w w' := by
  have ho1 := fun W => ones_calls 5 (by decide) W
  change ∀ W, Calls _ _ #[.int .i64 5] _ fun e w' => e = .returned (.int .u64 31) ∧ _ at ho1
  have ho2 := fun W => ones_calls 10 (by decide) W
  change ∀ W, Calls _ _ #[.int .i64 10] _ fun e w' => e = .returned (.int .u64 1023) ∧ _ at ho2
  have e1 := and_mask (x := b / 32768) (n := 1) (by omega) 1 (by decide) (by decide)
  have e2 := and_mask (x := b / 1024) (n := 5) (by omega) 31 (by decide) (by decide)
  have e3 := and_mask (x := b) (n := 10) (by omega) 1023 (by decide) (by decide)
  obtain ⟨s, hs⟩ : ∃ s, b / 32768 % 2 = s := ⟨_, rfl⟩
  obtain ⟨x, hx⟩ : ∃ x, b / 1024 % 32 = x := ⟨_, rfl⟩
  obtain ⟨f, hf⟩ : ∃ f, b % 1024 = f := ⟨_, rfl⟩
  change _ = ((b / 32768 % 2 : Nat) : Int) at e1
  change _ = ((b / 1024 % 32 : Nat) : Int) at e2
  change _ = ((b % 1024 : Nat) : Int) at e3
  have hxl : x < 32 := by omega
  have hwx : IntKind.i64.wrap (x : Int) = (x : Int) := IntWalk.i64_in _ (by omega)
  obtain ⟨q1, hq1⟩ : ∃ q : Nat, b / 32768 = q := ⟨_, rfl⟩
  obtain ⟨q2, hq2⟩ : ∃ q : Nat, b / 1024 = q := ⟨_, rfl⟩
  rw [hs, hq1] at e1
  rw [hx, hq2] at e2
  rw [hf] at e3
  have hd1 : (b : Int) / 32768 = (q1 : Int) := by omega
  have hd2 : (b : Int) / 1024 = (q2 : Int) := by omega
  have hww : IntKind.i64.wrap 15 = 15 := by decide
  have hA := below_alloc w (.cells #[.int .i64 10, .int .i64 5, .int .i64 16] 167)
  rw [hs, hx, hf]
  clear hs hx hf hq1 hq2 hxl
  go_enter Tryz.func131, Tryz.ntmps131
  go_wp2
  go_quiet ((first
    | (go_at_call_of 132 (Value.int IntKind.i64 5); refine Calls.quiet_of_same (same_flip (ho1 _)))
    | (go_at_call_of 132 (Value.int IntKind.i64 10); refine Calls.quiet_of_same (same_flip (ho2 _)))))
  go_wp2
  go_ret3
  exact ⟨rfl, belowN hA _⟩

theorem bias32_calls (w : World) :
    Calls Tryz.prog 134 #[.agg #[.int .i64 23, .int .i64 8, .int .i64 32]] w fun e w' => e = .returned (.int .i64 127) ∧ Below w.heap.size w w' := by
  have ho := fun W => ones_calls 7 (by decide) W
  change ∀ W, Calls _ _ #[.int .i64 7] _ fun e w' => e = .returned (.int .u64 127) ∧ _ at ho
  go_enter Tryz.func134, Tryz.ntmps134
  go_wp2_with fail
  refine (ho _).mono ?_
  rintro e w1 ⟨rfl, rfl⟩
  go_wp2
  go_ret
  exact ⟨rfl, below_alloc _ _⟩

set_option maxRecDepth 100000 in
theorem parts32_calls (b : Nat) (hb : b < 18446744073709551616) (w : World) :
    Calls Tryz.prog 131 #[.agg #[.int .i64 23, .int .i64 8, .int .i64 32], .int .u64 b] w fun e w' => e = .returned (.tuple #[.int .u64 (b / 2147483648 % 2 : Nat), .int .i64 (b / 8388608 % 256 : Nat), .int .u64 (b % 8388608 : Nat)]) ∧ Below w.heap.size w w' := by
  have ho1 := fun W => ones_calls 8 (by decide) W
  change ∀ W, Calls _ _ #[.int .i64 8] _ fun e w' => e = .returned (.int .u64 255) ∧ _ at ho1
  have ho2 := fun W => ones_calls 23 (by decide) W
  change ∀ W, Calls _ _ #[.int .i64 23] _ fun e w' => e = .returned (.int .u64 8388607) ∧ _ at ho2
  have e1 := and_mask (x := b / 2147483648) (n := 1) (by omega) 1 (by decide) (by decide)
  have e2 := and_mask (x := b / 8388608) (n := 8) (by omega) 255 (by decide) (by decide)
  have e3 := and_mask (x := b) (n := 23) (by omega) 8388607 (by decide) (by decide)
  obtain ⟨s, hs⟩ : ∃ s, b / 2147483648 % 2 = s := ⟨_, rfl⟩
  obtain ⟨x, hx⟩ : ∃ x, b / 8388608 % 256 = x := ⟨_, rfl⟩
  obtain ⟨f, hf⟩ : ∃ f, b % 8388608 = f := ⟨_, rfl⟩
  change _ = ((b / 2147483648 % 2 : Nat) : Int) at e1
  change _ = ((b / 8388608 % 256 : Nat) : Int) at e2
  change _ = ((b % 8388608 : Nat) : Int) at e3
  have hxl : x < 256 := by omega
  have hwx : IntKind.i64.wrap (x : Int) = (x : Int) := IntWalk.i64_in _ (by omega)
  obtain ⟨q1, hq1⟩ : ∃ q : Nat, b / 2147483648 = q := ⟨_, rfl⟩
  obtain ⟨q2, hq2⟩ : ∃ q : Nat, b / 8388608 = q := ⟨_, rfl⟩
  rw [hs, hq1] at e1
  rw [hx, hq2] at e2
  rw [hf] at e3
  have hd1 : (b : Int) / 2147483648 = (q1 : Int) := by omega
  have hd2 : (b : Int) / 8388608 = (q2 : Int) := by omega
  have hww : IntKind.i64.wrap 31 = 31 := by decide
  have hA := below_alloc w (.cells #[.int .i64 23, .int .i64 8, .int .i64 32] 167)
  rw [hs, hx, hf]
  clear hs hx hf hq1 hq2 hxl
  go_enter Tryz.func131, Tryz.ntmps131
  go_wp2
  go_quiet ((first
    | (go_at_call_of 132 (Value.int IntKind.i64 8); refine Calls.quiet_of_same (same_flip (ho1 _)))
    | (go_at_call_of 132 (Value.int IntKind.i64 23); refine Calls.quiet_of_same (same_flip (ho2 _)))))
  go_wp2
  go_ret3
  exact ⟨rfl, belowN hA _⟩

theorem bias64_calls (w : World) :
    Calls Tryz.prog 134 #[.agg #[.int .i64 52, .int .i64 11, .int .i64 64]] w fun e w' => e = .returned (.int .i64 1023) ∧ Below w.heap.size w w' := by
  have ho := fun W => ones_calls 10 (by decide) W
  change ∀ W, Calls _ _ #[.int .i64 10] _ fun e w' => e = .returned (.int .u64 1023) ∧ _ at ho
  go_enter Tryz.func134, Tryz.ntmps134
  go_wp2_with fail
  refine (ho _).mono ?_
  rintro e w1 ⟨rfl, rfl⟩
  go_wp2
  go_ret
  exact ⟨rfl, below_alloc _ _⟩

set_option maxRecDepth 100000 in
theorem parts64_calls (b : Nat) (hb : b < 18446744073709551616) (w : World) :
    Calls Tryz.prog 131 #[.agg #[.int .i64 52, .int .i64 11, .int .i64 64], .int .u64 b] w fun e w' => e = .returned (.tuple #[.int .u64 (b / 9223372036854775808 % 2 : Nat), .int .i64 (b / 4503599627370496 % 2048 : Nat), .int .u64 (b % 4503599627370496 : Nat)]) ∧ Below w.heap.size w w' := by
  have ho1 := fun W => ones_calls 11 (by decide) W
  change ∀ W, Calls _ _ #[.int .i64 11] _ fun e w' => e = .returned (.int .u64 2047) ∧ _ at ho1
  have ho2 := fun W => ones_calls 52 (by decide) W
  change ∀ W, Calls _ _ #[.int .i64 52] _ fun e w' => e = .returned (.int .u64 4503599627370495) ∧ _ at ho2
  have e1 := and_mask (x := b / 9223372036854775808) (n := 1) (by omega) 1 (by decide) (by decide)
  have e2 := and_mask (x := b / 4503599627370496) (n := 11) (by omega) 2047 (by decide) (by decide)
  have e3 := and_mask (x := b) (n := 52) (by omega) 4503599627370495 (by decide) (by decide)
  obtain ⟨s, hs⟩ : ∃ s, b / 9223372036854775808 % 2 = s := ⟨_, rfl⟩
  obtain ⟨x, hx⟩ : ∃ x, b / 4503599627370496 % 2048 = x := ⟨_, rfl⟩
  obtain ⟨f, hf⟩ : ∃ f, b % 4503599627370496 = f := ⟨_, rfl⟩
  change _ = ((b / 9223372036854775808 % 2 : Nat) : Int) at e1
  change _ = ((b / 4503599627370496 % 2048 : Nat) : Int) at e2
  change _ = ((b % 4503599627370496 : Nat) : Int) at e3
  have hxl : x < 2048 := by omega
  have hwx : IntKind.i64.wrap (x : Int) = (x : Int) := IntWalk.i64_in _ (by omega)
  obtain ⟨q1, hq1⟩ : ∃ q : Nat, b / 9223372036854775808 = q := ⟨_, rfl⟩
  obtain ⟨q2, hq2⟩ : ∃ q : Nat, b / 4503599627370496 = q := ⟨_, rfl⟩
  rw [hs, hq1] at e1
  rw [hx, hq2] at e2
  rw [hf] at e3
  have hd1 : (b : Int) / 9223372036854775808 = (q1 : Int) := by omega
  have hd2 : (b : Int) / 4503599627370496 = (q2 : Int) := by omega
  have hww : IntKind.i64.wrap 63 = 63 := by decide
  have hA := below_alloc w (.cells #[.int .i64 52, .int .i64 11, .int .i64 64] 167)
  rw [hs, hx, hf]
  clear hs hx hf hq1 hq2 hxl
  go_enter Tryz.func131, Tryz.ntmps131
  go_wp2
  go_quiet ((first
    | (go_at_call_of 132 (Value.int IntKind.i64 11); refine Calls.quiet_of_same (same_flip (ho1 _)))
    | (go_at_call_of 132 (Value.int IntKind.i64 52); refine Calls.quiet_of_same (same_flip (ho2 _)))))
  go_wp2
  go_ret3
  exact ⟨rfl, belowN hA _⟩

set_option maxRecDepth 100000 in
theorem joined16_calls (s e f : Nat) (hs : s < 2) (he : e < 32) (hf : f < 1024) (w : World) :
    Calls Tryz.prog 133 #[.agg #[.int .i64 10, .int .i64 5, .int .i64 16], .int .u64 s, .int .i64 e, .int .u64 f] w fun e' w' => e' = .returned (.int .u64 (s * 32768 + e * 1024 + f : Nat)) ∧ Below w.heap.size w w' := by
  have g1 := or_add (a := s) (b := e * 1024) (n := 15) (show e * 1024 < 32768 by omega) (show s * 32768 + e * 1024 < 18446744073709551616 by omega)
  have g2 := or_add (a := s * 32 + e) (b := f) (n := 10) hf (show (s * 32 + e) * 1024 + f < 18446744073709551616 by omega)
  change bits .or .u64 ((s * 32768 : Nat) : Int) ((e * 1024 : Nat) : Int) = ((s * 32768 + e * 1024 : Nat) : Int) at g1
  change bits .or .u64 (((s * 32 + e) * 1024 : Nat) : Int) (f : Int) = (((s * 32 + e) * 1024 + f : Nat) : Int) at g2
  rw [show (s * 32 + e) * 1024 = s * 32768 + e * 1024 by omega] at g2
  obtain ⟨v1, hv1⟩ : ∃ v : Nat, s * 32768 = v := ⟨_, rfl⟩
  obtain ⟨v2, hv2⟩ : ∃ v : Nat, e * 1024 = v := ⟨_, rfl⟩
  obtain ⟨v3, hv3⟩ : ∃ v : Nat, v1 + v2 = v := ⟨_, rfl⟩
  obtain ⟨v4, hv4⟩ : ∃ v : Nat, v3 + f = v := ⟨_, rfl⟩
  rw [hv1, hv2, hv3] at g1
  rw [hv1, hv2, hv3, hv4] at g2
  have hc1 : (s : Int) * 32768 = (v1 : Int) := by omega
  have hc2 : (e : Int) * 1024 = (v2 : Int) := by omega
  have hw1 : IntKind.u64.wrap (v1 : Int) = (v1 : Int) := IntWalk.u64_in _ (by omega)
  have hw2 : IntKind.u64.wrap (v2 : Int) = (v2 : Int) := IntWalk.u64_in _ (by omega)
  have hw3 : IntKind.u64.wrap (e : Int) = (e : Int) := IntWalk.u64_in _ (by omega)
  have hww : IntKind.i64.wrap 15 = 15 := by decide
  have hA := below_alloc w (.cells #[.int .i64 10, .int .i64 5, .int .i64 16] 167)
  rw [hv1, hv2, hv3, hv4]
  clear hv1 hv2 hv3 hv4 hs he hf
  go_enter Tryz.func133, Tryz.ntmps133
  go_wp2
  go_quiet (fail)
  go_wp2
  go_ret
  exact ⟨rfl, belowN hA _⟩

set_option maxRecDepth 100000 in
theorem joined32_calls (s e f : Nat) (hs : s < 2) (he : e < 256) (hf : f < 8388608) (w : World) :
    Calls Tryz.prog 133 #[.agg #[.int .i64 23, .int .i64 8, .int .i64 32], .int .u64 s, .int .i64 e, .int .u64 f] w fun e' w' => e' = .returned (.int .u64 (s * 2147483648 + e * 8388608 + f : Nat)) ∧ Below w.heap.size w w' := by
  have g1 := or_add (a := s) (b := e * 8388608) (n := 31) (show e * 8388608 < 2147483648 by omega) (show s * 2147483648 + e * 8388608 < 18446744073709551616 by omega)
  have g2 := or_add (a := s * 256 + e) (b := f) (n := 23) hf (show (s * 256 + e) * 8388608 + f < 18446744073709551616 by omega)
  change bits .or .u64 ((s * 2147483648 : Nat) : Int) ((e * 8388608 : Nat) : Int) = ((s * 2147483648 + e * 8388608 : Nat) : Int) at g1
  change bits .or .u64 (((s * 256 + e) * 8388608 : Nat) : Int) (f : Int) = (((s * 256 + e) * 8388608 + f : Nat) : Int) at g2
  rw [show (s * 256 + e) * 8388608 = s * 2147483648 + e * 8388608 by omega] at g2
  obtain ⟨v1, hv1⟩ : ∃ v : Nat, s * 2147483648 = v := ⟨_, rfl⟩
  obtain ⟨v2, hv2⟩ : ∃ v : Nat, e * 8388608 = v := ⟨_, rfl⟩
  obtain ⟨v3, hv3⟩ : ∃ v : Nat, v1 + v2 = v := ⟨_, rfl⟩
  obtain ⟨v4, hv4⟩ : ∃ v : Nat, v3 + f = v := ⟨_, rfl⟩
  rw [hv1, hv2, hv3] at g1
  rw [hv1, hv2, hv3, hv4] at g2
  have hc1 : (s : Int) * 2147483648 = (v1 : Int) := by omega
  have hc2 : (e : Int) * 8388608 = (v2 : Int) := by omega
  have hw1 : IntKind.u64.wrap (v1 : Int) = (v1 : Int) := IntWalk.u64_in _ (by omega)
  have hw2 : IntKind.u64.wrap (v2 : Int) = (v2 : Int) := IntWalk.u64_in _ (by omega)
  have hw3 : IntKind.u64.wrap (e : Int) = (e : Int) := IntWalk.u64_in _ (by omega)
  have hww : IntKind.i64.wrap 31 = 31 := by decide
  have hA := below_alloc w (.cells #[.int .i64 23, .int .i64 8, .int .i64 32] 167)
  rw [hv1, hv2, hv3, hv4]
  clear hv1 hv2 hv3 hv4 hs he hf
  go_enter Tryz.func133, Tryz.ntmps133
  go_wp2
  go_quiet (fail)
  go_wp2
  go_ret
  exact ⟨rfl, belowN hA _⟩

set_option maxRecDepth 100000 in
theorem joined64_calls (s e f : Nat) (hs : s < 2) (he : e < 2048) (hf : f < 4503599627370496) (w : World) :
    Calls Tryz.prog 133 #[.agg #[.int .i64 52, .int .i64 11, .int .i64 64], .int .u64 s, .int .i64 e, .int .u64 f] w fun e' w' => e' = .returned (.int .u64 (s * 9223372036854775808 + e * 4503599627370496 + f : Nat)) ∧ Below w.heap.size w w' := by
  have g1 := or_add (a := s) (b := e * 4503599627370496) (n := 63) (show e * 4503599627370496 < 9223372036854775808 by omega) (show s * 9223372036854775808 + e * 4503599627370496 < 18446744073709551616 by omega)
  have g2 := or_add (a := s * 2048 + e) (b := f) (n := 52) hf (show (s * 2048 + e) * 4503599627370496 + f < 18446744073709551616 by omega)
  change bits .or .u64 ((s * 9223372036854775808 : Nat) : Int) ((e * 4503599627370496 : Nat) : Int) = ((s * 9223372036854775808 + e * 4503599627370496 : Nat) : Int) at g1
  change bits .or .u64 (((s * 2048 + e) * 4503599627370496 : Nat) : Int) (f : Int) = (((s * 2048 + e) * 4503599627370496 + f : Nat) : Int) at g2
  rw [show (s * 2048 + e) * 4503599627370496 = s * 9223372036854775808 + e * 4503599627370496 by omega] at g2
  obtain ⟨v1, hv1⟩ : ∃ v : Nat, s * 9223372036854775808 = v := ⟨_, rfl⟩
  obtain ⟨v2, hv2⟩ : ∃ v : Nat, e * 4503599627370496 = v := ⟨_, rfl⟩
  obtain ⟨v3, hv3⟩ : ∃ v : Nat, v1 + v2 = v := ⟨_, rfl⟩
  obtain ⟨v4, hv4⟩ : ∃ v : Nat, v3 + f = v := ⟨_, rfl⟩
  rw [hv1, hv2, hv3] at g1
  rw [hv1, hv2, hv3, hv4] at g2
  have hc1 : (s : Int) * 9223372036854775808 = (v1 : Int) := by omega
  have hc2 : (e : Int) * 4503599627370496 = (v2 : Int) := by omega
  have hw1 : IntKind.u64.wrap (v1 : Int) = (v1 : Int) := IntWalk.u64_in _ (by omega)
  have hw2 : IntKind.u64.wrap (v2 : Int) = (v2 : Int) := IntWalk.u64_in _ (by omega)
  have hw3 : IntKind.u64.wrap (e : Int) = (e : Int) := IntWalk.u64_in _ (by omega)
  have hww : IntKind.i64.wrap 63 = 63 := by decide
  have hA := below_alloc w (.cells #[.int .i64 52, .int .i64 11, .int .i64 64] 167)
  rw [hv1, hv2, hv3, hv4]
  clear hv1 hv2 hv3 hv4 hs he hf
  go_enter Tryz.func133, Tryz.ntmps133
  go_wp2
  go_quiet (fail)
  go_wp2
  go_ret
  exact ⟨rfl, belowN hA _⟩
end Go.Proofs.YtpjlepkdiaohiaaGreatDoor

/- Package float: widths, of: walked. -/
namespace Go.Proofs.YtpjlepkdiaohiaaGreatDoor
open Go.RowKit
attribute [local go_sem] Oper.semAt_some

theorem widths_calls (w : World) :
    Calls Tryz.prog 136 #[] w fun e w' => e = .returned (.func (.func 159) #[] #[]) ∧ w = w' := by
  go_enter Tryz.func136, Tryz.ntmps136
  go_wp2
  go_ret
  exact ⟨rfl, rfl⟩

/-- the forms by their places. -/
def fp : Nat → Int | 0 => 10 | 1 => 23 | _ => 52
def fk : Nat → Int | 0 => 5 | 1 => 8 | _ => 11
def fw : Nat → Int | 0 => 16 | 1 => 32 | _ => 64
def encF (i : Nat) : Array Value := #[.agg #[.int .i64 (fp i), .int .i64 (fk i), .int .i64 (fw i)]]
def F9 : Value := .agg #[.int .i64 10, .int .i64 5, .int .i64 16, .int .i64 23, .int .i64 8, .int .i64 32, .int .i64 52, .int .i64 11, .int .i64 64]
theorem idx_F (k : Nat) (hk : k < 3) (w : World) : (Instr.index 189 F9 (.int .i64 k)).run Tryz.prog w = .ok (.agg #[.int .i64 (fp k), .int .i64 (fk k), .int .i64 (fw k)]) w := by
  rcases (show k = 0 ∨ k = 1 ∨ k = 2 by omega) with rfl | rfl | rfl
  · exact (idx_form w).1
  · exact (idx_form w).2.1
  · exact (idx_form w).2.2

set_option maxRecDepth 100000 in
set_option maxHeartbeats 2000000 in
theorem widths1 (l : Nat) (J Jx : List Nat → World → Prop)
    (hJ : ∀ p A B, J p A → Below A.heap.size A B → J p B)
    (hY : ∀ pre x W1, J pre W1 → (x = pre.length ∧ x < 3) → YieldAt Fence.wide 7 Tryz.prog l (encF x) W1 fun e W' =>
      (e = .returned (.bool true) ∧ J (pre ++ [x]) W' ∧ KeepsWalks W1 W') ∨ (e = .returned (.bool false) ∧ Jx (pre ++ [x]) W'))
    (W : World) (h0 : J [] W) :
    CallsIn Fence.wide 8 Tryz.prog 159 #[.func (.yield l) #[] #[]] W fun e W' => (∃ v, e = .returned v) ∧
      ((∃ ys : List Nat, ys.length = 3 ∧ J ys W') ∨ (∃ pre : List Nat, Jx pre W')) := by
  refine callsIn_of_wp Tryz.func159 rfl trivial ?_ rfl
  simp only [Tryz.ntmps159, List.size_toArray, List.length_cons, List.length_nil, Nat.reduceAdd, Nat.reduceSub, Array.replicate_succ, Array.replicate_zero, List.push_toArray, List.append_toArray, List.nil_append, List.cons_append]
  have hforms := forms_calls
  change ∀ W, Calls _ _ _ _ fun e w' => e = .returned F9 ∧ _ at hforms
  gi_wp2
  refine callW (hforms _) ?_
  rintro e w1 ⟨rfl, hb1⟩
  have hJ1 := hJ _ _ _ h0 hb1
  clear h0 hforms
  gi_wp2
  gi_loopw [5] (fun v wr => ∃ (k : Nat) (pre : List Nat), v = .int .i64 k ∧ k ≤ 3 ∧ pre.length = k ∧ J pre wr) (fun v _ => 3 - (intOf v).toNat)
  case atStart => exact ⟨0, [], rfl, Nat.zero_le _, rfl, hJ1⟩
  case round =>
    obtain ⟨k, pre, rfl, hk, hpl, hJs⟩ := hrel
    by_cases hks : k < 3
    · have hix := idx_F k hks
      have hJ2 := hJ _ _ _ hJs (below_alloc wr (.cells #[.int .i64 (fp k), .int .i64 (fk k), .int .i64 (fw k)] 167))
      obtain ⟨fn, tmps, assign, body, hy, hR⟩ := hY pre k _ hJ2 ⟨hpl.symm, hks⟩
      simp only [encF] at hy
      have hki : (k : Int) < 3 := by omega
      have HK := hid (And.intro hpl hks)
      clear hY hJ hpl hks hJs hJ2
      gi_wp2
      refine hR.mono ?_
      rintro e W3 (⟨rfl, hJ3, hk3⟩ | ⟨rfl, hJx3⟩)
      · have hJ3' := hid hJ3
        clear hJ3 hk3
        gi_wp2
        go_roundw
        case rel => exact ⟨k + 1, pre ++ [k], by simp, HK.out.2, by rw [List.length_append, HK.out.1]; rfl, hJ3'.out⟩
        case measure =>
          have := HK.out.2
          simp [intOf]; omega
      · gi_wp2
        exact bodyPost_ret (results_none rfl _ _ _) rfl ⟨⟨_, rfl⟩, .inr ⟨_, hJx3⟩⟩
    · have HJ := hid hJs
      have HP := hid (show pre.length = 3 by omega)
      have hki : ¬ (k : Int) < 3 := by omega
      clear hY hJ hpl hks hk hJs
      gi_wp2
      go_end0
      exact ⟨⟨_, rfl⟩, .inl ⟨pre, HP.out, HJ.out⟩⟩

theorem widths_iter (w : World) :
    IterC Tryz.prog 159 #[] encF (fun A B => Below A.heap.size A B) KeepsWalks (fun pre x => x = pre.length ∧ x < 3) (fun ys _ => ys.length = 3) (fun _ _ => True) w := by
  intro l J Jx W hW hJ _ hY h0
  refine (widths1 l J Jx (fun p A B h ho => hJ p A B h ho) hY W h0).mono ?_
  rintro e W' ⟨he, ⟨ys, h1, h2⟩ | ⟨pre, h2⟩⟩
  · exact ⟨he, .inl ⟨ys, h1, h2⟩⟩
  · exact ⟨he, .inr ⟨pre, trivial, h2⟩⟩
/-- a width's form, or none. -/
def ofP (x : Int) : Int := if x = 16 then 10 else if x = 32 then 23 else if x = 64 then 52 else 0
def ofK (x : Int) : Int := if x = 16 then 5 else if x = 32 then 8 else if x = 64 then 11 else 0
def ofW (x : Int) : Int := if x = 16 then 16 else if x = 32 then 32 else if x = 64 then 64 else 0
def formL (p k w : Int) : List Value := [.int .i64 p, .int .i64 k, .int .i64 w]

/-- what lies in memory while the forms are looked through. -/
structure OfI (w : World) (x : Int) (o : List Value) (b : Bool) (W : World) : Prop where
  arg : Boxed W w.heap.size 3 (.int .i64 x)
  res : Cls W (w.heap.size + 1) 167 (formL 0 0 0)
  out : Cls W (w.heap.size + 2) 167 o
  is : Boxed W (w.heap.size + 3) 4 (.bool b)
  below : Below w.heap.size w W
  size : w.heap.size + 4 ≤ W.heap.size
theorem CellsKept.cls {A B : World} {g : Nat} {t : TypeId} {xs : List Value} (h : CellsKept A B) (hb : Cls A g t xs) : Cls B g t xs := h g _ _ _ hb
theorem OfI.next {w : World} {x : Int} {o : List Value} {b : Bool} {A B : World} (h : OfI w x o b A) (hk : CellsKept A B) (hb : Below w.heap.size A B) : OfI w x o b B :=
  ⟨hk.boxed h.arg, hk.cls h.res, hk.cls h.out, hk.boxed h.is, h.below.trans hb, Nat.le_trans h.size hb.size⟩
theorem OfI.below' {w : World} {x : Int} {o : List Value} {b : Bool} {A B : World} (h : OfI w x o b A) (hb : Below A.heap.size A B) : OfI w x o b B :=
  h.next (CellsKept.below hb) (hb.mono h.below.size)

set_option maxRecDepth 100000 in
set_option maxHeartbeats 4000000 in
theorem fof_calls (x : Int) (w : World) :
    Calls Tryz.prog 128 #[.int .i64 x] w fun e w' => e = .returned (.tuple #[.agg #[.int .i64 (ofP x), .int .i64 (ofK x), .int .i64 (ofW x)], .bool (isW x)]) ∧ Below w.heap.size w w' := by
  have hprog : Tryz.prog.follows .mixedOrders = true := by kernel_rfl
  refine calls_marks Tryz.func128 rfl ?_
  simp only [Tryz.ntmps128, List.size_toArray, List.length_cons, List.length_nil, Nat.reduceAdd, Nat.reduceSub, Array.replicate_succ, Array.replicate_zero, List.push_toArray, List.append_toArray, List.nil_append, List.cons_append]
  go_wp2
  refine wp_scope_straight ?_
  go_wp2_with fail
  first | refine wp_label ?_ | refine wp_seq (wp_label ?_)
  go_wp2_with fail
  refine (widths_calls _).mono ?_
  rintro e v1 ⟨rfl, rfl⟩
  go_wp2
  obtain ⟨W0, hW0, hsz0, hI0⟩ : ∃ W0, ((((w.alloc (.cells #[.int .i64 x] 3)).alloc (.cells #[.int .i64 0, .int .i64 0, .int .i64 0] 167)).alloc (.cells #[.int .i64 0, .int .i64 0, .int .i64 0] 167)).alloc (.cells #[.bool false] 4)) = W0 ∧ W0.heap.size = w.heap.size + 4 ∧ OfI w x (formL 0 0 0) false W0 := by
    have b1 := Boxed.new w 3 (.int .i64 x)
    have b2 := Cls.new (w.alloc (.cells #[.int .i64 x] 3)) 167 (formL 0 0 0)
    have b3 := Cls.new ((w.alloc (.cells #[.int .i64 x] 3)).alloc (.cells #[.int .i64 0, .int .i64 0, .int .i64 0] 167)) 167 (formL 0 0 0)
    have b4 := Boxed.new (((w.alloc (.cells #[.int .i64 x] 3)).alloc (.cells #[.int .i64 0, .int .i64 0, .int .i64 0] 167)).alloc (.cells #[.int .i64 0, .int .i64 0, .int .i64 0] 167)) 4 (.bool false)
    have hA := (((below_alloc w (.cells #[.int .i64 x] 3)).alloc (by simp) (.cells #[.int .i64 0, .int .i64 0, .int .i64 0] 167)).alloc (by simp; omega) (.cells #[.int .i64 0, .int .i64 0, .int .i64 0] 167)).alloc (by simp; omega) (.cells #[.bool false] 4)
    simp only [World.size_alloc] at b2 b3 b4
    exact ⟨_, rfl, by simp, ⟨((b1.alloc _).alloc _).alloc _, (b2.alloc _).alloc _, b3.alloc _, b4, hA, by simp⟩⟩
  rw [hW0]
  clear hW0
  refine rangeOverP (gf := 159) (lb := #[]) rfl (enters_of Tryz.func159 (by kernel_rfl) rfl)
    (widths_iter W0) (Below.refl _ _) (fun _ => rfl)
    (fun A B h => ⟨h.size, fun k o _ h1 _ => (h.block k (Array.getElem?_eq_some_iff.1 h1).1).trans h1⟩) (fun h k => h.trans k) (fun W l o o' hl h hc hw => KeepsWalks.putObj o' h hw)
    (ownFrom_pure _ _) (ownFrom_pure _ _)
    (fun pre W => OfI w x (formL 0 0 0) false W ∧ ∀ j, j < pre.length → fw j ≠ x) (fun c pre W => c = .exit 0 ∧ ∃ k, k < 3 ∧ fw k = x ∧ OfI w x (formL (fp k) (fk k) (fw k)) true W) ?hI (fun _ => ?hIx) ?hII ?hIxI ⟨hI0, fun j hj => absurd hj (Nat.not_lt_zero _)⟩
    (fun i a' W => ∃ q, W0.heap.size ≤ q ∧ q < W.heap.size ∧ Cls W q 167 (formL (fp i) (fk i) (fw i)) ∧ a' = { tmps := #[.int .i64 x, .pointer (some ⟨w.heap.size, 0, none⟩), .pointer (some ⟨w.heap.size + 1, 0, none⟩), .bool false, .pointer (some ⟨w.heap.size + 2, 0, none⟩), .pointer (some ⟨w.heap.size + 3, 0, none⟩), .pointer (some ⟨q, 0, none⟩), .func (.func 159) #[] #[], .agg #[.int .i64 (fp i), .int .i64 (fk i), .int .i64 (fw i)], undef, undef, undef, undef, undef, undef, undef], defers := [] })
    ?hAx ?assign ?body ?done ?stop
  case hI => exact ownFrom_of (fun s W W' ⟨h, h2⟩ hk hb => ⟨h.next hk (hb.mono (by omega)), h2⟩) (fun s W h => by rw [hsz0]; exact h.1.size)
  case hIx => exact ownFrom_of (fun s W W' ⟨h, k, h1, h2, h3⟩ hk hb => ⟨h, k, h1, h2, h3.next hk (hb.mono (by omega))⟩) (fun s W ⟨h, k, h1, h2, h3⟩ => by rw [hsz0]; exact h3.size)
  case hII => exact fun s A B ⟨h, h2⟩ hb => ⟨h.below' hb, h2⟩
  case hIxI => exact fun c s A B ⟨h, k, h1, h2, h3⟩ hb => ⟨h, k, h1, h2, h3.below' hb⟩
  case hAx => exact fun i a' => ownFrom_of (fun s W W' ⟨q, h1, h2, h3, h4⟩ hk hb => ⟨q, h1, Nat.lt_of_lt_of_le h2 hb.size, hk.cls h3, h4⟩) (fun s W ⟨q, h1, h2, h3, h4⟩ => by omega)
  case assign =>
    rintro l pre i W K ⟨hi, hp⟩ hok hK
    clear hok
    unfold encF
    have hA := below_alloc W (.cells #[.int .i64 (fp i), .int .i64 (fk i), .int .i64 (fw i)] 167)
    have hC := Cls.new W 167 (formL (fp i) (fk i) (fw i))
    have hs := hi.size
    have HX := hid (And.intro hA (And.intro hC (And.intro hs (And.intro hi hp))))
    clear hA hC hi hp hs
    gi_wp2
    obtain ⟨hA, hC, hs, hi, hp⟩ := HX.out
    exact hK _ _ ((KeepsOthers.alloc W _).from _) (KeepsWalks.alloc W _) ⟨hi.below' hA, hp⟩ ⟨W.heap.size, by omega, by simp, hC, rfl⟩
  case body =>
    rintro l pre i a' W hl ⟨hi, hp⟩ ⟨q, hq1, hq2, hC, rfl⟩ ⟨hi1, hi2⟩
    have c0 := hC.cell 0 rfl
    have c1 := hC.cell 1 rfl
    have c2 := hC.cell 2 rfl
    have e0 := hi.arg.cell
    have o0 := hi.out.cell 0 rfl
    have o1 := hi.out.cell 1 rfl
    have o2 := hi.out.cell 2 rfl
    have oz0 := hi.out.frozen 0
    have oz1 := hi.out.frozen 1
    have oz2 := hi.out.frozen 2
    have s0 := hi.is.cell
    have sz := hi.is.frozen
    by_cases hx : fw i = x
    · have hxb : (fw i == x) = true := by rw [beq_iff_eq]; exact hx
      have HX := hid (And.intro hi (And.intro hp (And.intro hx (And.intro hi1 (And.intro hi2 (And.intro hq1 hsz0))))))
      clear hi hp hx hi1
      gi_wp2
      obtain ⟨hi, hp, hx, -, -, hq, hs0⟩ := HX.out
      have n0 : w.heap.size + 1 ≠ w.heap.size + 2 := by omega
      have n1 : w.heap.size + 1 ≠ w.heap.size + 3 := by omega
      have n2 : w.heap.size ≠ w.heap.size + 2 := by omega
      have n3 : w.heap.size ≠ w.heap.size + 3 := by omega
      have n4 : w.heap.size + 2 ≠ w.heap.size + 3 := by omega
      have n5 : w.heap.size + 3 ≠ w.heap.size + 2 := by omega
      refine ⟨(((((KeepsOthers.setCell _ _ _).trans (KeepsOthers.setCell _ _ _)).trans (KeepsOthers.setCell _ _ _)).trans (KeepsOthers.setCell _ _ _)).from _), rfl, i, hi2, hx, ?_⟩
      refine ⟨?_, ?_, ?_, ?_, ?_, ?_⟩
      · exact boxed_other (boxed_other (boxed_other (boxed_other hi.arg n2 _) n2 _) n2 _) n3 _
      · exact (((hi.res.other n0 _).other n0 _).other n0 _).other n1 _
      · exact ((((hi.out.set 0 (.int .i64 (fp i))).set 1 (.int .i64 (fk i))).set 2 (.int .i64 (fw i))).other n4 _)
      · exact (boxed_other (boxed_other (boxed_other hi.is n5 _) n5 _) n5 _).set (.bool true)
      · exact (((hi.below.setCell (p := ⟨w.heap.size + 2, 0, none⟩) (by show w.heap.size ≤ w.heap.size + 2; omega) _).setCell (p := ⟨w.heap.size + 2, 1, none⟩) (by show w.heap.size ≤ w.heap.size + 2; omega) _).setCell (p := ⟨w.heap.size + 2, 2, none⟩) (by show w.heap.size ≤ w.heap.size + 2; omega) _).setCell (p := ⟨w.heap.size + 3, 0, none⟩) (by show w.heap.size ≤ w.heap.size + 3; omega) _
      · rw [setCell_size, setCell_size, setCell_size, setCell_size]; exact hi.size
    · have hxb : (fw i == x) = false := by rw [beq_eq_false_iff_ne]; exact hx
      have HX := hid (And.intro hi (And.intro hp (And.intro hx (And.intro hi1 hi2))))
      clear hi hp hx hi1
      gi_wp2
      obtain ⟨hi, hp, hx, hpi, -⟩ := HX.out
      refine ⟨KeepsFrom.refl _ _, KeepsWalks.refl _, hi, fun j hj => ?_⟩
      rw [List.length_append, List.length_singleton] at hj
      by_cases hj2 : j < pre.length
      · exact hp j hj2
      · obtain rfl : j = i := by omega
        exact hx
  case done =>
    rintro D xs W hD hxl ⟨hi, hp⟩ hK
    have hr := hid (show ofP x = 0 ∧ ofK x = 0 ∧ ofW x = 0 ∧ isW x = false by
      have h0 := hp 0 (by omega)
      have h1 := hp 1 (by omega)
      have h2 := hp 2 (by omega)
      change (16 : Int) ≠ x at h0
      change (32 : Int) ≠ x at h1
      change (64 : Int) ≠ x at h2
      unfold ofP ofK ofW isW
      rw [if_neg (by omega), if_neg (by omega), if_neg (by omega), if_neg (by omega), if_neg (by omega), if_neg (by omega), if_neg (by omega), if_neg (by omega), if_neg (by omega), decide_eq_false (by omega), decide_eq_false (by omega), decide_eq_false (by omega)]
      exact ⟨rfl, rfl, rfl, rfl⟩)
    have o0 := hi.out.cell 0 rfl
    have o1 := hi.out.cell 1 rfl
    have o2 := hi.out.cell 2 rfl
    have s0 := hi.is.cell
    have r0 := hi.res.cell 0 rfl
    have r1 := hi.res.cell 1 rfl
    have r2 := hi.res.cell 2 rfl
    have rz0 := hi.res.frozen 0
    have rz1 := hi.res.frozen 1
    have rz2 := hi.res.frozen 2
    have HX := hid (And.intro hi (And.intro hsz0 (And.intro hD hK)))
    clear hi hp hK hD hxl
    go_wp2
    go_region
    all_goals go_wp2
    rw [Exit.noGoto_ret]
    obtain ⟨hi, hsz, hD, hK⟩ := HX.out
    obtain ⟨W5, hW5, hR, hK5, hB5⟩ : ∃ W5, (((W.setCell ⟨w.heap.size + 1, 0, none⟩ (.int .i64 0)).setCell ⟨w.heap.size + 1, 1, none⟩ (.int .i64 0)).setCell ⟨w.heap.size + 1, 2, none⟩ (.int .i64 0)).drew = W5 ∧ Cls W5 (w.heap.size + 1) 167 (formL 0 0 0) ∧ W5.heap[D]? = some (Obj.deferred (some [])) ∧ Below w.heap.size w W5 := by
      refine ⟨_, rfl, ?_, ?_, ?_⟩
      · exact ((hi.res.set 0 (.int .i64 0)).set 1 (.int .i64 0)).set 2 (.int .i64 0)
      · exact (Below.heap_setCell _ _ _ _ (by show D ≠ w.heap.size + 1; omega)).trans ((Below.heap_setCell _ _ _ _ (by show D ≠ w.heap.size + 1; omega)).trans ((Below.heap_setCell _ _ _ _ (by show D ≠ w.heap.size + 1; omega)).trans hK))
      · exact (((hi.below.setCell (p := ⟨w.heap.size + 1, 0, none⟩) (by show w.heap.size ≤ w.heap.size + 1; omega) _).setCell (p := ⟨w.heap.size + 1, 1, none⟩) (by show w.heap.size ≤ w.heap.size + 1; omega) _).setCell (p := ⟨w.heap.size + 1, 2, none⟩) (by show w.heap.size ≤ w.heap.size + 1; omega) _).drew
    rw [hW5]
    have hR2 : ∀ o, Cls (W5.putObj D o) (w.heap.size + 1) 167 (formL 0 0 0) := fun o => (World.putObj_heap_other (by omega)).trans hR
    refine ⟨by simp, .inl ⟨_, _, rfl, run_takeDeferred hK5, ?_⟩⟩
    have f0 := (hR2 (.deferred none)).cell 0 rfl
    have f1 := (hR2 (.deferred none)).cell 1 rfl
    have f2 := (hR2 (.deferred none)).cell 2 rfl
    refine ⟨.tuple #[.agg #[.int .i64 0, .int .i64 0, .int .i64 0], .bool false], by simp [results, Tryz.results128, go_sem, f0, f1, f2], by rw [hr.out.1, hr.out.2.1, hr.out.2.2.1, hr.out.2.2.2], (belowK_b (w := w) (Nat.le_refl _) _ D _ _ (by omega) hK5 rfl rfl) |> hB5.trans⟩
  case stop =>
    rintro D c pre W hD - ⟨rfl, k, hk, hx, hi⟩ hK
    have hr := hid (show ofP x = fp k ∧ ofK x = fk k ∧ ofW x = fw k ∧ isW x = true by
      subst hx
      rcases (show k = 0 ∨ k = 1 ∨ k = 2 by omega) with rfl | rfl | rfl <;> exact ⟨rfl, rfl, rfl, rfl⟩)
    have o0 := hi.out.cell 0 rfl
    have o1 := hi.out.cell 1 rfl
    have o2 := hi.out.cell 2 rfl
    have s0 := hi.is.cell
    have r0 := hi.res.cell 0 rfl
    have r1 := hi.res.cell 1 rfl
    have r2 := hi.res.cell 2 rfl
    have rz0 := hi.res.frozen 0
    have rz1 := hi.res.frozen 1
    have rz2 := hi.res.frozen 2
    have HX := hid (And.intro hi (And.intro hsz0 (And.intro hD hK)))
    clear hi hx hK hD
    go_wp2
    go_region
    all_goals go_wp2
    rw [Exit.noGoto_ret]
    obtain ⟨hi, hsz, hD, hK⟩ := HX.out
    obtain ⟨W5, hW5, hR, hK5, hB5⟩ : ∃ W5, (((W.setCell ⟨w.heap.size + 1, 0, none⟩ (.int .i64 (fp k))).setCell ⟨w.heap.size + 1, 1, none⟩ (.int .i64 (fk k))).setCell ⟨w.heap.size + 1, 2, none⟩ (.int .i64 (fw k))).drew = W5 ∧ Cls W5 (w.heap.size + 1) 167 (formL (fp k) (fk k) (fw k)) ∧ W5.heap[D]? = some (Obj.deferred (some [])) ∧ Below w.heap.size w W5 := by
      refine ⟨_, rfl, ?_, ?_, ?_⟩
      · exact ((hi.res.set 0 (.int .i64 (fp k))).set 1 (.int .i64 (fk k))).set 2 (.int .i64 (fw k))
      · exact (Below.heap_setCell _ _ _ _ (by show D ≠ w.heap.size + 1; omega)).trans ((Below.heap_setCell _ _ _ _ (by show D ≠ w.heap.size + 1; omega)).trans ((Below.heap_setCell _ _ _ _ (by show D ≠ w.heap.size + 1; omega)).trans hK))
      · exact (((hi.below.setCell (p := ⟨w.heap.size + 1, 0, none⟩) (by show w.heap.size ≤ w.heap.size + 1; omega) _).setCell (p := ⟨w.heap.size + 1, 1, none⟩) (by show w.heap.size ≤ w.heap.size + 1; omega) _).setCell (p := ⟨w.heap.size + 1, 2, none⟩) (by show w.heap.size ≤ w.heap.size + 1; omega) _).drew
    rw [hW5]
    have hR2 : ∀ o, Cls (W5.putObj D o) (w.heap.size + 1) 167 (formL (fp k) (fk k) (fw k)) := fun o => (World.putObj_heap_other (by omega)).trans hR
    refine ⟨by simp, .inl ⟨_, _, rfl, run_takeDeferred hK5, ?_⟩⟩
    have f0 := (hR2 (.deferred none)).cell 0 rfl
    have f1 := (hR2 (.deferred none)).cell 1 rfl
    have f2 := (hR2 (.deferred none)).cell 2 rfl
    refine ⟨.tuple #[.agg #[.int .i64 (fp k), .int .i64 (fk k), .int .i64 (fw k)], .bool true], by simp [results, Tryz.results128, go_sem, f0, f1, f2], by rw [hr.out.1, hr.out.2.1, hr.out.2.2.1, hr.out.2.2.2], (belowK_b (w := w) (Nat.le_refl _) _ D _ _ (by omega) hK5 rfl rfl) |> hB5.trans⟩
end Go.Proofs.YtpjlepkdiaohiaaGreatDoor

/- Package float: Widen: walked. -/
namespace Go.Proofs.YtpjlepkdiaohiaaGreatDoor
open Go.RowKit Go.Shelf
attribute [local go_sem] Oper.semAt_some

theorem below_nextF {w W W' : World} (h : Below w.heap.size w W) (hb : Below W.heap.size W W') : Below w.heap.size w W' := h.trans (hb.mono h.size)
theorem eqF16 (w : World) : (binOp .eql 167 (.agg #[.int .i64 10, .int .i64 5, .int .i64 16]) (.agg #[.int .i64 52, .int .i64 11, .int .i64 64])).run Tryz.prog w = .ok (.bool false) w := by kernel_rfl
theorem eqF32 (w : World) : (binOp .eql 167 (.agg #[.int .i64 23, .int .i64 8, .int .i64 32]) (.agg #[.int .i64 52, .int .i64 11, .int .i64 64])).run Tryz.prog w = .ok (.bool false) w := by kernel_rfl
theorem eqF64 (w : World) : (binOp .eql 167 (.agg #[.int .i64 52, .int .i64 11, .int .i64 64]) (.agg #[.int .i64 52, .int .i64 11, .int .i64 64])).run Tryz.prog w = .ok (.bool true) w := by kernel_rfl
theorem guardF : Tryz.prog.eqGuardType Tryz.prog.depth 167 = false := by kernel_rfl

theorem len_le {b n : Nat} (hb : b < 18446744073709551616) (_hn : n ≤ 63) : Lib.bitLen b ≤ n ↔ b < 2 ^ n := by
  constructor
  · intro h
    rcases Nat.eq_zero_or_pos b with h0 | h0
    · rw [h0]; exact Nat.pow_pos (by omega)
    · exact Nat.lt_of_lt_of_le (len_bounds (Nat.pos_iff_ne_zero.1 h0) hb).2.2 (pow_le h)
  · intro h
    rcases Nat.eq_zero_or_pos b with h0 | h0
    · rw [h0]; exact Nat.le_trans (by decide) (Nat.zero_le n)
    · have g := (len_bounds (Nat.pos_iff_ne_zero.1 h0) hb).2.1
      rcases Nat.lt_or_ge n (Lib.bitLen b) with h1 | h1
      · have := pow_le (show n ≤ Lib.bitLen b - 1 by omega); omega
      · exact h1

set_option maxRecDepth 100000 in
set_option maxHeartbeats 4000000 in
theorem widen_none (b : Nat) (x : Int) (hx : isW x = false) (w : World) :
    Calls Tryz.prog 93 #[.int .u64 b, .int .i64 x] w fun e w' => e = .returned (.tuple #[.int .u64 0, .int .i64 2]) ∧ Below w.heap.size w w' := by
  have hof := fun W => fof_calls x W
  rw [hx] at hof
  obtain ⟨p, hp⟩ : ∃ p, ofP x = p := ⟨_, rfl⟩
  obtain ⟨k, hk⟩ : ∃ p, ofK x = p := ⟨_, rfl⟩
  obtain ⟨y, hy⟩ : ∃ p, ofW x = p := ⟨_, rfl⟩
  rw [hp, hk, hy] at hof
  clear hp hk hy hx
  go_enter Tryz.func93, Tryz.ntmps93
  go_wp2_with fail
  refine (hof _).mono ?_
  rintro e w1 ⟨rfl, hb1⟩
  have hW1 := hb1
  go_wp2
  go_ret2
  exact ⟨rfl, hW1.alloc hW1.size _⟩

set_option maxRecDepth 100000 in
set_option maxHeartbeats 4000000 in
theorem widen_long (b : Nat) (hb : b < 18446744073709551616) (x : Int) (hx : isW x = true) (hl : x < (Lib.bitLen b : Int)) (w : World) :
    Calls Tryz.prog 93 #[.int .u64 b, .int .i64 x] w fun e w' => e = .returned (.tuple #[.int .u64 0, .int .i64 2]) ∧ Below w.heap.size w w' := by
  have hof := fun W => fof_calls x W
  rw [hx] at hof
  obtain ⟨p, hp⟩ : ∃ p, ofP x = p := ⟨_, rfl⟩
  obtain ⟨k, hk⟩ : ∃ p, ofK x = p := ⟨_, rfl⟩
  obtain ⟨y, hy⟩ : ∃ p, ofW x = p := ⟨_, rfl⟩
  rw [hp, hk, hy] at hof
  have hlen := fun W => same_symm (Tryz.bits_Len64 (b : Int) W (by omega) (by omega))
  rw [Int.toNat_natCast] at hlen
  obtain ⟨L, hL⟩ : ∃ L, Lib.bitLen b = L := ⟨_, rfl⟩
  rw [hL] at hlen hl
  clear hp hk hy hx hL
  go_enter Tryz.func93, Tryz.ntmps93
  go_wp2_with fail
  refine (hof _).mono ?_
  rintro e w1 ⟨rfl, hb1⟩
  have hW1 := hb1
  have hF2 := Cls.new w1 167 [.int .i64 p, .int .i64 k, .int .i64 y]
  have hW2 := hW1.alloc hW1.size (.cells #[.int .i64 p, .int .i64 k, .int .i64 y] 167)
  go_wp2_with fail
  refine (hlen _).mono ?_
  rintro e v3 ⟨rfl, rfl⟩
  go_wp2
  go_ret2
  exact ⟨rfl, hW2⟩

set_option maxRecDepth 100000 in
set_option maxHeartbeats 4000000 in
theorem widen_64 (b : Nat) (hb : b < 18446744073709551616) (hl : (Lib.bitLen b : Int) ≤ 64) (w : World) :
    Calls Tryz.prog 93 #[.int .u64 b, .int .i64 64] w fun e w' => e = .returned (.tuple #[.int .u64 b, .int .i64 0]) ∧ Below w.heap.size w w' := by
  have hof := fun W => fof_calls 64 W
  change ∀ W, Calls _ _ _ _ fun e w' => e = .returned (.tuple #[.agg #[.int .i64 52, .int .i64 11, .int .i64 64], .bool true]) ∧ _ at hof
  have hlen := fun W => same_symm (Tryz.bits_Len64 (b : Int) W (by omega) (by omega))
  rw [Int.toNat_natCast] at hlen
  obtain ⟨L, hL⟩ : ∃ L, Lib.bitLen b = L := ⟨_, rfl⟩
  rw [hL] at hlen hl
  have hl2 : ¬ (64 : Int) < (L : Int) := by omega
  have hwide := wide_calls
  have hparts := fun W => parts64_calls b hb W
  have heq := eqF64
  have hg := guardF
  clear hL hl
  go_enter Tryz.func93, Tryz.ntmps93
  go_wp2_with fail
  refine (hof _).mono ?_
  rintro e w1 ⟨rfl, hb1⟩
  have hW1 := hb1
  have hF2 := Cls.new w1 167 [.int .i64 52, .int .i64 11, .int .i64 64]
  have hW2 := hW1.alloc hW1.size (.cells #[.int .i64 52, .int .i64 11, .int .i64 64] 167)
  go_wp2_with fail
  generalize w1.alloc (.cells #[.int .i64 52, .int .i64 11, .int .i64 64] 167) = V3 at *
  refine (hlen _).mono ?_
  rintro e v4 ⟨rfl, rfl⟩
  go_wp2_with fail
  refine (hwide _).mono ?_
  rintro e w5 ⟨rfl, hb5⟩
  have hW5 := hW2.trans (hb5.mono hW2.size)
  have hF5 := hF2.below hb5
  have hF6 := hF5.alloc (.cells #[.int .i64 52, .int .i64 11, .int .i64 64] 167)
  have hG6 := Cls.new w5 167 [.int .i64 52, .int .i64 11, .int .i64 64]
  have hW6 := hW5.alloc hW5.size (.cells #[.int .i64 52, .int .i64 11, .int .i64 64] 167)
  have F_0 := hF6.cell 0 rfl
  have F_1 := hF6.cell 1 rfl
  have F_2 := hF6.cell 2 rfl
  have G_0 := hG6.cell 0 rfl
  have G_1 := hG6.cell 1 rfl
  have G_2 := hG6.cell 2 rfl
  go_wp2_with fail
  generalize w5.alloc (.cells #[.int .i64 52, .int .i64 11, .int .i64 64] 167) = V7 at *
  clear F_0 F_1 F_2
  clear G_0 G_1 G_2
  refine (hparts _).mono ?_
  rintro e w8 ⟨rfl, hb8⟩
  have hW8 := hW6.trans (hb8.mono hW6.size)
  have hF8 := hF6.below hb8
  have hG8 := hG6.below hb8
  have F_0 := hF8.cell 0 rfl
  have F_1 := hF8.cell 1 rfl
  have F_2 := hF8.cell 2 rfl
  have G_0 := hG8.cell 0 rfl
  have G_1 := hG8.cell 1 rfl
  have G_2 := hG8.cell 2 rfl
  go_wp2
  go_ret2
  exact ⟨rfl, hW8⟩

set_option maxRecDepth 100000 in
set_option maxHeartbeats 4000000 in
theorem widen16_top (b : Nat) (hb2 : b < 2 ^ 16) (he : b / 1024 % 32 = 31) (w : World) :
    Calls Tryz.prog 93 #[.int .u64 b, .int .i64 16] w fun e w' => e = .returned (.tuple #[.int .u64 (widV f16 b : Nat), .int .i64 0]) ∧ Below w.heap.size w w' := by
  have hbC : b / 32768 < 2 := by omega
  have hb : b < 18446744073709551616 := by omega
  have hl : (Lib.bitLen b : Int) ≤ 16 := by have := (len_le (n := 16) hb (by omega)).2 hb2; omega
  have hof := fun W => fof_calls 16 W
  change ∀ W, Calls _ _ _ _ fun e w' => e = .returned (.tuple #[.agg #[.int .i64 10, .int .i64 5, .int .i64 16], .bool true]) ∧ _ at hof
  have hlen := fun W => same_symm (Tryz.bits_Len64 (b : Int) W (by omega) (by omega))
  rw [Int.toNat_natCast] at hlen
  obtain ⟨L, hL⟩ : ∃ L, Lib.bitLen b = L := ⟨_, rfl⟩
  rw [hL] at hlen hl
  have hl2 : ¬ (16 : Int) < (L : Int) := by omega
  have hwide := wide_calls
  have hparts := fun W => parts16_calls b hb W
  have heq := eqF16
  have hg := guardF
  have hok := fun W => ones_calls 5 (by decide) W
  change ∀ W, Calls _ _ #[.int .i64 5] _ fun e w' => e = .returned (.int .u64 31) ∧ _ at hok
  have ho11 := fun W => ones_calls 11 (by decide) W
  change ∀ W, Calls _ _ #[.int .i64 11] _ fun e w' => e = .returned (.int .u64 2047) ∧ _ at ho11
  have hmod : b / 32768 % 2 = b / 32768 := Nat.mod_eq_of_lt hbC
  rw [hmod] at hparts
  have hV : widV f16 b = widV f16 b := rfl
  conv at hV => rhs; unfold widV
  change widV f16 b = (if b / 1024 % 32 = 31 then b / 32768 * C64 + 2047 * A64 + b % 1024 * 4398046511104 else if b / 1024 % 32 = 0 then (if b % 1024 = 0 then b / 32768 * C64 else b / 32768 * C64 + (1024 - 15 - up f16 (b % 1024)) * A64 + (b % 1024 * 2 ^ up f16 (b % 1024) - 1024) * 4398046511104) else b / 32768 * C64 + (b / 1024 % 32 + 1023 - 15) * A64 + b % 1024 * 4398046511104) at hV
  obtain ⟨s, hs⟩ : ∃ s, b / 32768 = s := ⟨_, rfl⟩
  obtain ⟨e, he'⟩ : ∃ e, b / 1024 % 32 = e := ⟨_, rfl⟩
  obtain ⟨f, hf⟩ : ∃ f, b % 1024 = f := ⟨_, rfl⟩
  have hfl : f < 1024 := by omega
  have hel : e < 32 := by omega
  rw [hs, he', hf] at hparts hV
  rw [hs] at hbC
  rw [he'] at he
  subst he
  rw [if_pos rfl] at hV
  change ∀ W, Calls _ _ _ _ fun e w' => e = .returned (.tuple #[_, .int .i64 31, _]) ∧ _ at hparts
  obtain ⟨fd, hfd⟩ : ∃ v, f * 4398046511104 = v := ⟨_, rfl⟩
  have hj := fun W => joined64_calls s 2047 fd hbC (by decide) (by omega) W
  change ∀ W, Calls _ _ #[_, _, .int .i64 2047, _] _ _ at hj
  obtain ⟨v, hv⟩ : ∃ v, s * 9223372036854775808 + 2047 * 4503599627370496 + fd = v := ⟨_, rfl⟩
  rw [hv] at hj
  have HR := hid (show widV f16 b = v by rw [hV, hfd]; exact hv)
  have hc1 : (f : Int) * 4398046511104 = (fd : Int) := by omega
  have hw1 : IntKind.u64.wrap (fd : Int) = (fd : Int) := IntWalk.u64_in _ (by omega)
  have hw2 : IntKind.i64.wrap 2047 = 2047 := by decide
  have hw3 : IntKind.i64.wrap 31 = 31 := by decide
  clear hV hfd hv hL hl hs he' hf hmod hel hfl hb2
  go_enter Tryz.func93, Tryz.ntmps93
  go_wp2_with fail
  refine (hof _).mono ?_
  rintro e w1 ⟨rfl, hb1⟩
  have hW1 := hb1
  have hF2 := Cls.new w1 167 [.int .i64 10, .int .i64 5, .int .i64 16]
  have hW2 := hW1.alloc hW1.size (.cells #[.int .i64 10, .int .i64 5, .int .i64 16] 167)
  go_wp2_with fail
  generalize w1.alloc (.cells #[.int .i64 10, .int .i64 5, .int .i64 16] 167) = V3 at *
  refine (hlen _).mono ?_
  rintro e v4 ⟨rfl, rfl⟩
  go_wp2_with fail
  refine (hwide _).mono ?_
  rintro e w5 ⟨rfl, hb5⟩
  have hW5 := hW2.trans (hb5.mono hW2.size)
  have hF5 := hF2.below hb5
  have hF6 := hF5.alloc (.cells #[.int .i64 52, .int .i64 11, .int .i64 64] 167)
  have hG6 := Cls.new w5 167 [.int .i64 52, .int .i64 11, .int .i64 64]
  have hW6 := hW5.alloc hW5.size (.cells #[.int .i64 52, .int .i64 11, .int .i64 64] 167)
  have F_0 := hF6.cell 0 rfl
  have F_1 := hF6.cell 1 rfl
  have F_2 := hF6.cell 2 rfl
  have G_0 := hG6.cell 0 rfl
  have G_1 := hG6.cell 1 rfl
  have G_2 := hG6.cell 2 rfl
  go_wp2_with fail
  generalize w5.alloc (.cells #[.int .i64 52, .int .i64 11, .int .i64 64] 167) = V7 at *
  clear F_0 F_1 F_2
  clear G_0 G_1 G_2
  refine (hparts _).mono ?_
  rintro e w8 ⟨rfl, hb8⟩
  have hW8 := hW6.trans (hb8.mono hW6.size)
  have hF8 := hF6.below hb8
  have hG8 := hG6.below hb8
  have F_0 := hF8.cell 0 rfl
  have F_1 := hF8.cell 1 rfl
  have F_2 := hF8.cell 2 rfl
  have G_0 := hG8.cell 0 rfl
  have G_1 := hG8.cell 1 rfl
  have G_2 := hG8.cell 2 rfl
  go_wp2_with fail
  refine (hok _).mono ?_
  rintro e v9 ⟨rfl, rfl⟩
  go_wp2_with fail
  have hWW := hW8
  go_region_held3 (fun w' => w'.cell? ⟨w1.heap.size, 0, none⟩ = some (.int .i64 10) ∧ w'.cell? ⟨w1.heap.size, 1, none⟩ = some (.int .i64 5) ∧ w'.cell? ⟨w1.heap.size, 2, none⟩ = some (.int .i64 16) ∧ w'.cell? ⟨w5.heap.size, 0, none⟩ = some (.int .i64 52) ∧ w'.cell? ⟨w5.heap.size, 1, none⟩ = some (.int .i64 11) ∧ w'.cell? ⟨w5.heap.size, 2, none⟩ = some (.int .i64 64) ∧ Below w.heap.size w w')
    (first
      | (refine ⟨?_, ?_, ?_, ?_, ?_, ?_, ?_⟩ <;> first | assumption | exact cell_below (by assumption) hbX | exact below_nextF (by assumption) hbX | exact Below.drew (by assumption))
      | go_keep
      | (go_split_ands
         refine ⟨?_, ?_, ?_, ?_, ?_, ?_, ?_⟩ <;> first | assumption | exact cell_below (by assumption) hbX | exact below_nextF (by assumption) hbX | exact Below.drew (by assumption)))
    (first
      | (go_at_call 132; refine (ho11 _).mono ?_; rintro e v8 ⟨rfl, rfl⟩)
      | (go_at_call 133; refine (hj _).mono ?_; rintro e wr ⟨rfl, hbX⟩))
  all_goals (
    go_wp2
    go_ret2
    go_split_ands
    exact ⟨by rw [HR.out] <;> rfl, by assumption⟩)

set_option maxRecDepth 100000 in
set_option maxHeartbeats 4000000 in
theorem widen16_zero (b : Nat) (hb2 : b < 2 ^ 16) (he : b / 1024 % 32 = 0) (hf0 : b % 1024 = 0) (w : World) :
    Calls Tryz.prog 93 #[.int .u64 b, .int .i64 16] w fun e w' => e = .returned (.tuple #[.int .u64 (widV f16 b : Nat), .int .i64 0]) ∧ Below w.heap.size w w' := by
  have hbC : b / 32768 < 2 := by omega
  have hb : b < 18446744073709551616 := by omega
  have hl : (Lib.bitLen b : Int) ≤ 16 := by have := (len_le (n := 16) hb (by omega)).2 hb2; omega
  have hof := fun W => fof_calls 16 W
  change ∀ W, Calls _ _ _ _ fun e w' => e = .returned (.tuple #[.agg #[.int .i64 10, .int .i64 5, .int .i64 16], .bool true]) ∧ _ at hof
  have hlen := fun W => same_symm (Tryz.bits_Len64 (b : Int) W (by omega) (by omega))
  rw [Int.toNat_natCast] at hlen
  obtain ⟨L, hL⟩ : ∃ L, Lib.bitLen b = L := ⟨_, rfl⟩
  rw [hL] at hlen hl
  have hl2 : ¬ (16 : Int) < (L : Int) := by omega
  have hwide := wide_calls
  have hparts := fun W => parts16_calls b hb W
  have heq := eqF16
  have hg := guardF
  have hok := fun W => ones_calls 5 (by decide) W
  change ∀ W, Calls _ _ #[.int .i64 5] _ fun e w' => e = .returned (.int .u64 31) ∧ _ at hok
  have ho11 := fun W => ones_calls 11 (by decide) W
  change ∀ W, Calls _ _ #[.int .i64 11] _ fun e w' => e = .returned (.int .u64 2047) ∧ _ at ho11
  have hmod : b / 32768 % 2 = b / 32768 := Nat.mod_eq_of_lt hbC
  rw [hmod] at hparts
  have hV : widV f16 b = widV f16 b := rfl
  conv at hV => rhs; unfold widV
  change widV f16 b = (if b / 1024 % 32 = 31 then b / 32768 * C64 + 2047 * A64 + b % 1024 * 4398046511104 else if b / 1024 % 32 = 0 then (if b % 1024 = 0 then b / 32768 * C64 else b / 32768 * C64 + (1024 - 15 - up f16 (b % 1024)) * A64 + (b % 1024 * 2 ^ up f16 (b % 1024) - 1024) * 4398046511104) else b / 32768 * C64 + (b / 1024 % 32 + 1023 - 15) * A64 + b % 1024 * 4398046511104) at hV
  obtain ⟨s, hs⟩ : ∃ s, b / 32768 = s := ⟨_, rfl⟩
  obtain ⟨e, he'⟩ : ∃ e, b / 1024 % 32 = e := ⟨_, rfl⟩
  obtain ⟨f, hf⟩ : ∃ f, b % 1024 = f := ⟨_, rfl⟩
  have hfl : f < 1024 := by omega
  have hel : e < 32 := by omega
  rw [hs, he', hf] at hparts hV
  rw [hs] at hbC
  rw [he'] at he
  rw [hf] at hf0
  subst he hf0
  rw [if_neg (by decide), if_pos rfl, if_pos rfl] at hV
  change ∀ W, Calls _ _ _ _ fun e w' => e = .returned (.tuple #[_, .int .i64 0, .int .u64 0]) ∧ _ at hparts
  have hj := fun W => joined64_calls s 0 0 hbC (by decide) (by decide) W
  change ∀ W, Calls _ _ #[_, _, .int .i64 0, .int .u64 0] _ _ at hj
  simp only [Nat.zero_mul, Nat.add_zero] at hj
  obtain ⟨v, hv⟩ : ∃ v, s * 9223372036854775808 = v := ⟨_, rfl⟩
  rw [hv] at hj
  have HR := hid (show widV f16 b = v from hV.trans hv)
  have hw3 : IntKind.i64.wrap 31 = 31 := by decide
  clear hV hv hL hl hs he' hf hmod hel hfl hb2
  go_enter Tryz.func93, Tryz.ntmps93
  go_wp2_with fail
  refine (hof _).mono ?_
  rintro e w1 ⟨rfl, hb1⟩
  have hW1 := hb1
  have hF2 := Cls.new w1 167 [.int .i64 10, .int .i64 5, .int .i64 16]
  have hW2 := hW1.alloc hW1.size (.cells #[.int .i64 10, .int .i64 5, .int .i64 16] 167)
  go_wp2_with fail
  generalize w1.alloc (.cells #[.int .i64 10, .int .i64 5, .int .i64 16] 167) = V3 at *
  refine (hlen _).mono ?_
  rintro e v4 ⟨rfl, rfl⟩
  go_wp2_with fail
  refine (hwide _).mono ?_
  rintro e w5 ⟨rfl, hb5⟩
  have hW5 := hW2.trans (hb5.mono hW2.size)
  have hF5 := hF2.below hb5
  have hF6 := hF5.alloc (.cells #[.int .i64 52, .int .i64 11, .int .i64 64] 167)
  have hG6 := Cls.new w5 167 [.int .i64 52, .int .i64 11, .int .i64 64]
  have hW6 := hW5.alloc hW5.size (.cells #[.int .i64 52, .int .i64 11, .int .i64 64] 167)
  have F_0 := hF6.cell 0 rfl
  have F_1 := hF6.cell 1 rfl
  have F_2 := hF6.cell 2 rfl
  have G_0 := hG6.cell 0 rfl
  have G_1 := hG6.cell 1 rfl
  have G_2 := hG6.cell 2 rfl
  go_wp2_with fail
  generalize w5.alloc (.cells #[.int .i64 52, .int .i64 11, .int .i64 64] 167) = V7 at *
  clear F_0 F_1 F_2
  clear G_0 G_1 G_2
  refine (hparts _).mono ?_
  rintro e w8 ⟨rfl, hb8⟩
  have hW8 := hW6.trans (hb8.mono hW6.size)
  have hF8 := hF6.below hb8
  have hG8 := hG6.below hb8
  have F_0 := hF8.cell 0 rfl
  have F_1 := hF8.cell 1 rfl
  have F_2 := hF8.cell 2 rfl
  have G_0 := hG8.cell 0 rfl
  have G_1 := hG8.cell 1 rfl
  have G_2 := hG8.cell 2 rfl
  go_wp2_with fail
  refine (hok _).mono ?_
  rintro e v9 ⟨rfl, rfl⟩
  go_wp2_with fail
  refine (hj _).mono ?_
  rintro e w9 ⟨rfl, hb9⟩
  have hW9 := hW8.trans (hb9.mono hW8.size)
  have hF9 := hF8.below hb9
  have hG9 := hG8.below hb9
  go_wp2
  go_ret2
  exact ⟨by rw [HR.out] <;> rfl, hW9⟩

set_option maxRecDepth 100000 in
set_option maxHeartbeats 4000000 in
theorem widen16_main (b : Nat) (hb2 : b < 2 ^ 16) (he : b / 1024 % 32 ≠ 0 ∧ b / 1024 % 32 ≠ 31) (w : World) :
    Calls Tryz.prog 93 #[.int .u64 b, .int .i64 16] w fun e w' => e = .returned (.tuple #[.int .u64 (widV f16 b : Nat), .int .i64 0]) ∧ Below w.heap.size w w' := by
  have hbC : b / 32768 < 2 := by omega
  have hb : b < 18446744073709551616 := by omega
  have hl : (Lib.bitLen b : Int) ≤ 16 := by have := (len_le (n := 16) hb (by omega)).2 hb2; omega
  have hof := fun W => fof_calls 16 W
  change ∀ W, Calls _ _ _ _ fun e w' => e = .returned (.tuple #[.agg #[.int .i64 10, .int .i64 5, .int .i64 16], .bool true]) ∧ _ at hof
  have hlen := fun W => same_symm (Tryz.bits_Len64 (b : Int) W (by omega) (by omega))
  rw [Int.toNat_natCast] at hlen
  obtain ⟨L, hL⟩ : ∃ L, Lib.bitLen b = L := ⟨_, rfl⟩
  rw [hL] at hlen hl
  have hl2 : ¬ (16 : Int) < (L : Int) := by omega
  have hwide := wide_calls
  have hparts := fun W => parts16_calls b hb W
  have heq := eqF16
  have hg := guardF
  have hok := fun W => ones_calls 5 (by decide) W
  change ∀ W, Calls _ _ #[.int .i64 5] _ fun e w' => e = .returned (.int .u64 31) ∧ _ at hok
  have ho11 := fun W => ones_calls 11 (by decide) W
  change ∀ W, Calls _ _ #[.int .i64 11] _ fun e w' => e = .returned (.int .u64 2047) ∧ _ at ho11
  have hmod : b / 32768 % 2 = b / 32768 := Nat.mod_eq_of_lt hbC
  rw [hmod] at hparts
  have hV : widV f16 b = widV f16 b := rfl
  conv at hV => rhs; unfold widV
  change widV f16 b = (if b / 1024 % 32 = 31 then b / 32768 * C64 + 2047 * A64 + b % 1024 * 4398046511104 else if b / 1024 % 32 = 0 then (if b % 1024 = 0 then b / 32768 * C64 else b / 32768 * C64 + (1024 - 15 - up f16 (b % 1024)) * A64 + (b % 1024 * 2 ^ up f16 (b % 1024) - 1024) * 4398046511104) else b / 32768 * C64 + (b / 1024 % 32 + 1023 - 15) * A64 + b % 1024 * 4398046511104) at hV
  obtain ⟨s, hs⟩ : ∃ s, b / 32768 = s := ⟨_, rfl⟩
  obtain ⟨e, he'⟩ : ∃ e, b / 1024 % 32 = e := ⟨_, rfl⟩
  obtain ⟨f, hf⟩ : ∃ f, b % 1024 = f := ⟨_, rfl⟩
  have hfl : f < 1024 := by omega
  have hel : e < 32 := by omega
  rw [hs, he', hf] at hparts hV
  rw [hs] at hbC
  rw [he'] at he
  rw [if_neg he.2, if_neg he.1] at hV
  have hne : ((e : Int) == 31) = false := by rw [beq_eq_false_iff_ne]; omega
  have hne0 : ((e : Int) == 0) = false := by rw [beq_eq_false_iff_ne]; omega
  obtain ⟨E, hE⟩ : ∃ E, e + 1023 - 15 = E := ⟨_, rfl⟩
  obtain ⟨gd, hgd⟩ : ∃ v, f * 4398046511104 = v := ⟨_, rfl⟩
  have hj := fun W => joined64_calls s E gd hbC (by omega) (by omega) W
  obtain ⟨v, hv⟩ : ∃ v, s * 9223372036854775808 + E * 4503599627370496 + gd = v := ⟨_, rfl⟩
  rw [hv] at hj
  have HR := hid (show widV f16 b = v by rw [hV, hE, hgd]; exact hv)
  have hc1 : (f : Int) * 4398046511104 = (gd : Int) := by omega
  have hw1 : IntKind.u64.wrap (gd : Int) = (gd : Int) := IntWalk.u64_in _ (by omega)
  obtain ⟨y1, hy1⟩ : ∃ y : Int, (e : Int) - 15 = y := ⟨_, rfl⟩
  have hy2 : y1 + 1023 = (E : Int) := by omega
  have hyw : IntKind.i64.wrap y1 = y1 := IntWalk.i64_in _ (by omega)
  have hyE : IntKind.i64.wrap (E : Int) = (E : Int) := IntWalk.i64_in _ (by omega)
  have hw3 : IntKind.i64.wrap 31 = 31 := by decide
  clear hV hv hL hl hs he' hf hmod hel hfl hb2 hE hgd he
  go_enter Tryz.func93, Tryz.ntmps93
  go_wp2_with fail
  refine (hof _).mono ?_
  rintro e w1 ⟨rfl, hb1⟩
  have hW1 := hb1
  have hF2 := Cls.new w1 167 [.int .i64 10, .int .i64 5, .int .i64 16]
  have hW2 := hW1.alloc hW1.size (.cells #[.int .i64 10, .int .i64 5, .int .i64 16] 167)
  go_wp2_with fail
  generalize w1.alloc (.cells #[.int .i64 10, .int .i64 5, .int .i64 16] 167) = V3 at *
  refine (hlen _).mono ?_
  rintro e v4 ⟨rfl, rfl⟩
  go_wp2_with fail
  refine (hwide _).mono ?_
  rintro e w5 ⟨rfl, hb5⟩
  have hW5 := hW2.trans (hb5.mono hW2.size)
  have hF5 := hF2.below hb5
  have hF6 := hF5.alloc (.cells #[.int .i64 52, .int .i64 11, .int .i64 64] 167)
  have hG6 := Cls.new w5 167 [.int .i64 52, .int .i64 11, .int .i64 64]
  have hW6 := hW5.alloc hW5.size (.cells #[.int .i64 52, .int .i64 11, .int .i64 64] 167)
  have F_0 := hF6.cell 0 rfl
  have F_1 := hF6.cell 1 rfl
  have F_2 := hF6.cell 2 rfl
  have G_0 := hG6.cell 0 rfl
  have G_1 := hG6.cell 1 rfl
  have G_2 := hG6.cell 2 rfl
  go_wp2_with fail
  generalize w5.alloc (.cells #[.int .i64 52, .int .i64 11, .int .i64 64] 167) = V7 at *
  clear F_0 F_1 F_2
  clear G_0 G_1 G_2
  refine (hparts _).mono ?_
  rintro e w8 ⟨rfl, hb8⟩
  have hW8 := hW6.trans (hb8.mono hW6.size)
  have hF8 := hF6.below hb8
  have hG8 := hG6.below hb8
  have F_0 := hF8.cell 0 rfl
  have F_1 := hF8.cell 1 rfl
  have F_2 := hF8.cell 2 rfl
  have G_0 := hG8.cell 0 rfl
  have G_1 := hG8.cell 1 rfl
  have G_2 := hG8.cell 2 rfl
  go_wp2_with fail
  refine (hok _).mono ?_
  rintro e v9 ⟨rfl, rfl⟩
  go_wp2_with fail
  have hWW := hW8
  go_region_held3 (fun w' => w'.cell? ⟨w1.heap.size, 0, none⟩ = some (.int .i64 10) ∧ w'.cell? ⟨w1.heap.size, 1, none⟩ = some (.int .i64 5) ∧ w'.cell? ⟨w1.heap.size, 2, none⟩ = some (.int .i64 16) ∧ w'.cell? ⟨w5.heap.size, 0, none⟩ = some (.int .i64 52) ∧ w'.cell? ⟨w5.heap.size, 1, none⟩ = some (.int .i64 11) ∧ w'.cell? ⟨w5.heap.size, 2, none⟩ = some (.int .i64 64) ∧ Below w.heap.size w w')
    (first
      | (refine ⟨?_, ?_, ?_, ?_, ?_, ?_, ?_⟩ <;> first | assumption | exact cell_below (by assumption) hbX | exact below_nextF (by assumption) hbX | exact Below.drew (by assumption))
      | go_keep
      | (go_split_ands
         refine ⟨?_, ?_, ?_, ?_, ?_, ?_, ?_⟩ <;> first | assumption | exact cell_below (by assumption) hbX | exact below_nextF (by assumption) hbX | exact Below.drew (by assumption)))
    (first
      | (go_at_call_of 134 (Value.agg #[.int .i64 10, .int .i64 5, .int .i64 16]); refine (bias16_calls _).mono ?_; rintro e wa ⟨rfl, hbX⟩)
      | (go_at_call_of 134 (Value.agg #[.int .i64 52, .int .i64 11, .int .i64 64]); refine (bias64_calls _).mono ?_; rintro e wc ⟨rfl, hbX⟩)
      | (go_at_call 133; refine (hj _).mono ?_; rintro e wr ⟨rfl, hbX⟩))
  all_goals (
    go_wp2
    go_ret2
    go_split_ands
    exact ⟨by rw [HR.out] <;> rfl, by assumption⟩)

set_option maxRecDepth 100000 in
set_option maxHeartbeats 4000000 in
theorem widen32_top (b : Nat) (hb2 : b < 2 ^ 32) (he : b / 8388608 % 256 = 255) (w : World) :
    Calls Tryz.prog 93 #[.int .u64 b, .int .i64 32] w fun e w' => e = .returned (.tuple #[.int .u64 (widV f32 b : Nat), .int .i64 0]) ∧ Below w.heap.size w w' := by
  have hbC : b / 2147483648 < 2 := by omega
  have hb : b < 18446744073709551616 := by omega
  have hl : (Lib.bitLen b : Int) ≤ 32 := by have := (len_le (n := 32) hb (by omega)).2 hb2; omega
  have hof := fun W => fof_calls 32 W
  change ∀ W, Calls _ _ _ _ fun e w' => e = .returned (.tuple #[.agg #[.int .i64 23, .int .i64 8, .int .i64 32], .bool true]) ∧ _ at hof
  have hlen := fun W => same_symm (Tryz.bits_Len64 (b : Int) W (by omega) (by omega))
  rw [Int.toNat_natCast] at hlen
  obtain ⟨L, hL⟩ : ∃ L, Lib.bitLen b = L := ⟨_, rfl⟩
  rw [hL] at hlen hl
  have hl2 : ¬ (32 : Int) < (L : Int) := by omega
  have hwide := wide_calls
  have hparts := fun W => parts32_calls b hb W
  have heq := eqF32
  have hg := guardF
  have hok := fun W => ones_calls 8 (by decide) W
  change ∀ W, Calls _ _ #[.int .i64 8] _ fun e w' => e = .returned (.int .u64 255) ∧ _ at hok
  have ho11 := fun W => ones_calls 11 (by decide) W
  change ∀ W, Calls _ _ #[.int .i64 11] _ fun e w' => e = .returned (.int .u64 2047) ∧ _ at ho11
  have hmod : b / 2147483648 % 2 = b / 2147483648 := Nat.mod_eq_of_lt hbC
  rw [hmod] at hparts
  have hV : widV f32 b = widV f32 b := rfl
  conv at hV => rhs; unfold widV
  change widV f32 b = (if b / 8388608 % 256 = 255 then b / 2147483648 * C64 + 2047 * A64 + b % 8388608 * 536870912 else if b / 8388608 % 256 = 0 then (if b % 8388608 = 0 then b / 2147483648 * C64 else b / 2147483648 * C64 + (1024 - 127 - up f32 (b % 8388608)) * A64 + (b % 8388608 * 2 ^ up f32 (b % 8388608) - 8388608) * 536870912) else b / 2147483648 * C64 + (b / 8388608 % 256 + 1023 - 127) * A64 + b % 8388608 * 536870912) at hV
  obtain ⟨s, hs⟩ : ∃ s, b / 2147483648 = s := ⟨_, rfl⟩
  obtain ⟨e, he'⟩ : ∃ e, b / 8388608 % 256 = e := ⟨_, rfl⟩
  obtain ⟨f, hf⟩ : ∃ f, b % 8388608 = f := ⟨_, rfl⟩
  have hfl : f < 8388608 := by omega
  have hel : e < 256 := by omega
  rw [hs, he', hf] at hparts hV
  rw [hs] at hbC
  rw [he'] at he
  subst he
  rw [if_pos rfl] at hV
  change ∀ W, Calls _ _ _ _ fun e w' => e = .returned (.tuple #[_, .int .i64 255, _]) ∧ _ at hparts
  obtain ⟨fd, hfd⟩ : ∃ v, f * 536870912 = v := ⟨_, rfl⟩
  have hj := fun W => joined64_calls s 2047 fd hbC (by decide) (by omega) W
  change ∀ W, Calls _ _ #[_, _, .int .i64 2047, _] _ _ at hj
  obtain ⟨v, hv⟩ : ∃ v, s * 9223372036854775808 + 2047 * 4503599627370496 + fd = v := ⟨_, rfl⟩
  rw [hv] at hj
  have HR := hid (show widV f32 b = v by rw [hV, hfd]; exact hv)
  have hc1 : (f : Int) * 536870912 = (fd : Int) := by omega
  have hw1 : IntKind.u64.wrap (fd : Int) = (fd : Int) := IntWalk.u64_in _ (by omega)
  have hw2 : IntKind.i64.wrap 2047 = 2047 := by decide
  have hw3 : IntKind.i64.wrap 255 = 255 := by decide
  clear hV hfd hv hL hl hs he' hf hmod hel hfl hb2
  go_enter Tryz.func93, Tryz.ntmps93
  go_wp2_with fail
  refine (hof _).mono ?_
  rintro e w1 ⟨rfl, hb1⟩
  have hW1 := hb1
  have hF2 := Cls.new w1 167 [.int .i64 23, .int .i64 8, .int .i64 32]
  have hW2 := hW1.alloc hW1.size (.cells #[.int .i64 23, .int .i64 8, .int .i64 32] 167)
  go_wp2_with fail
  generalize w1.alloc (.cells #[.int .i64 23, .int .i64 8, .int .i64 32] 167) = V3 at *
  refine (hlen _).mono ?_
  rintro e v4 ⟨rfl, rfl⟩
  go_wp2_with fail
  refine (hwide _).mono ?_
  rintro e w5 ⟨rfl, hb5⟩
  have hW5 := hW2.trans (hb5.mono hW2.size)
  have hF5 := hF2.below hb5
  have hF6 := hF5.alloc (.cells #[.int .i64 52, .int .i64 11, .int .i64 64] 167)
  have hG6 := Cls.new w5 167 [.int .i64 52, .int .i64 11, .int .i64 64]
  have hW6 := hW5.alloc hW5.size (.cells #[.int .i64 52, .int .i64 11, .int .i64 64] 167)
  have F_0 := hF6.cell 0 rfl
  have F_1 := hF6.cell 1 rfl
  have F_2 := hF6.cell 2 rfl
  have G_0 := hG6.cell 0 rfl
  have G_1 := hG6.cell 1 rfl
  have G_2 := hG6.cell 2 rfl
  go_wp2_with fail
  generalize w5.alloc (.cells #[.int .i64 52, .int .i64 11, .int .i64 64] 167) = V7 at *
  clear F_0 F_1 F_2
  clear G_0 G_1 G_2
  refine (hparts _).mono ?_
  rintro e w8 ⟨rfl, hb8⟩
  have hW8 := hW6.trans (hb8.mono hW6.size)
  have hF8 := hF6.below hb8
  have hG8 := hG6.below hb8
  have F_0 := hF8.cell 0 rfl
  have F_1 := hF8.cell 1 rfl
  have F_2 := hF8.cell 2 rfl
  have G_0 := hG8.cell 0 rfl
  have G_1 := hG8.cell 1 rfl
  have G_2 := hG8.cell 2 rfl
  go_wp2_with fail
  refine (hok _).mono ?_
  rintro e v9 ⟨rfl, rfl⟩
  go_wp2_with fail
  have hWW := hW8
  go_region_held3 (fun w' => w'.cell? ⟨w1.heap.size, 0, none⟩ = some (.int .i64 23) ∧ w'.cell? ⟨w1.heap.size, 1, none⟩ = some (.int .i64 8) ∧ w'.cell? ⟨w1.heap.size, 2, none⟩ = some (.int .i64 32) ∧ w'.cell? ⟨w5.heap.size, 0, none⟩ = some (.int .i64 52) ∧ w'.cell? ⟨w5.heap.size, 1, none⟩ = some (.int .i64 11) ∧ w'.cell? ⟨w5.heap.size, 2, none⟩ = some (.int .i64 64) ∧ Below w.heap.size w w')
    (first
      | (refine ⟨?_, ?_, ?_, ?_, ?_, ?_, ?_⟩ <;> first | assumption | exact cell_below (by assumption) hbX | exact below_nextF (by assumption) hbX | exact Below.drew (by assumption))
      | go_keep
      | (go_split_ands
         refine ⟨?_, ?_, ?_, ?_, ?_, ?_, ?_⟩ <;> first | assumption | exact cell_below (by assumption) hbX | exact below_nextF (by assumption) hbX | exact Below.drew (by assumption)))
    (first
      | (go_at_call 132; refine (ho11 _).mono ?_; rintro e v8 ⟨rfl, rfl⟩)
      | (go_at_call 133; refine (hj _).mono ?_; rintro e wr ⟨rfl, hbX⟩))
  all_goals (
    go_wp2
    go_ret2
    go_split_ands
    exact ⟨by rw [HR.out] <;> rfl, by assumption⟩)

set_option maxRecDepth 100000 in
set_option maxHeartbeats 4000000 in
theorem widen32_zero (b : Nat) (hb2 : b < 2 ^ 32) (he : b / 8388608 % 256 = 0) (hf0 : b % 8388608 = 0) (w : World) :
    Calls Tryz.prog 93 #[.int .u64 b, .int .i64 32] w fun e w' => e = .returned (.tuple #[.int .u64 (widV f32 b : Nat), .int .i64 0]) ∧ Below w.heap.size w w' := by
  have hbC : b / 2147483648 < 2 := by omega
  have hb : b < 18446744073709551616 := by omega
  have hl : (Lib.bitLen b : Int) ≤ 32 := by have := (len_le (n := 32) hb (by omega)).2 hb2; omega
  have hof := fun W => fof_calls 32 W
  change ∀ W, Calls _ _ _ _ fun e w' => e = .returned (.tuple #[.agg #[.int .i64 23, .int .i64 8, .int .i64 32], .bool true]) ∧ _ at hof
  have hlen := fun W => same_symm (Tryz.bits_Len64 (b : Int) W (by omega) (by omega))
  rw [Int.toNat_natCast] at hlen
  obtain ⟨L, hL⟩ : ∃ L, Lib.bitLen b = L := ⟨_, rfl⟩
  rw [hL] at hlen hl
  have hl2 : ¬ (32 : Int) < (L : Int) := by omega
  have hwide := wide_calls
  have hparts := fun W => parts32_calls b hb W
  have heq := eqF32
  have hg := guardF
  have hok := fun W => ones_calls 8 (by decide) W
  change ∀ W, Calls _ _ #[.int .i64 8] _ fun e w' => e = .returned (.int .u64 255) ∧ _ at hok
  have ho11 := fun W => ones_calls 11 (by decide) W
  change ∀ W, Calls _ _ #[.int .i64 11] _ fun e w' => e = .returned (.int .u64 2047) ∧ _ at ho11
  have hmod : b / 2147483648 % 2 = b / 2147483648 := Nat.mod_eq_of_lt hbC
  rw [hmod] at hparts
  have hV : widV f32 b = widV f32 b := rfl
  conv at hV => rhs; unfold widV
  change widV f32 b = (if b / 8388608 % 256 = 255 then b / 2147483648 * C64 + 2047 * A64 + b % 8388608 * 536870912 else if b / 8388608 % 256 = 0 then (if b % 8388608 = 0 then b / 2147483648 * C64 else b / 2147483648 * C64 + (1024 - 127 - up f32 (b % 8388608)) * A64 + (b % 8388608 * 2 ^ up f32 (b % 8388608) - 8388608) * 536870912) else b / 2147483648 * C64 + (b / 8388608 % 256 + 1023 - 127) * A64 + b % 8388608 * 536870912) at hV
  obtain ⟨s, hs⟩ : ∃ s, b / 2147483648 = s := ⟨_, rfl⟩
  obtain ⟨e, he'⟩ : ∃ e, b / 8388608 % 256 = e := ⟨_, rfl⟩
  obtain ⟨f, hf⟩ : ∃ f, b % 8388608 = f := ⟨_, rfl⟩
  have hfl : f < 8388608 := by omega
  have hel : e < 256 := by omega
  rw [hs, he', hf] at hparts hV
  rw [hs] at hbC
  rw [he'] at he
  rw [hf] at hf0
  subst he hf0
  rw [if_neg (by decide), if_pos rfl, if_pos rfl] at hV
  change ∀ W, Calls _ _ _ _ fun e w' => e = .returned (.tuple #[_, .int .i64 0, .int .u64 0]) ∧ _ at hparts
  have hj := fun W => joined64_calls s 0 0 hbC (by decide) (by decide) W
  change ∀ W, Calls _ _ #[_, _, .int .i64 0, .int .u64 0] _ _ at hj
  simp only [Nat.zero_mul, Nat.add_zero] at hj
  obtain ⟨v, hv⟩ : ∃ v, s * 9223372036854775808 = v := ⟨_, rfl⟩
  rw [hv] at hj
  have HR := hid (show widV f32 b = v from hV.trans hv)
  have hw3 : IntKind.i64.wrap 255 = 255 := by decide
  clear hV hv hL hl hs he' hf hmod hel hfl hb2
  go_enter Tryz.func93, Tryz.ntmps93
  go_wp2_with fail
  refine (hof _).mono ?_
  rintro e w1 ⟨rfl, hb1⟩
  have hW1 := hb1
  have hF2 := Cls.new w1 167 [.int .i64 23, .int .i64 8, .int .i64 32]
  have hW2 := hW1.alloc hW1.size (.cells #[.int .i64 23, .int .i64 8, .int .i64 32] 167)
  go_wp2_with fail
  generalize w1.alloc (.cells #[.int .i64 23, .int .i64 8, .int .i64 32] 167) = V3 at *
  refine (hlen _).mono ?_
  rintro e v4 ⟨rfl, rfl⟩
  go_wp2_with fail
  refine (hwide _).mono ?_
  rintro e w5 ⟨rfl, hb5⟩
  have hW5 := hW2.trans (hb5.mono hW2.size)
  have hF5 := hF2.below hb5
  have hF6 := hF5.alloc (.cells #[.int .i64 52, .int .i64 11, .int .i64 64] 167)
  have hG6 := Cls.new w5 167 [.int .i64 52, .int .i64 11, .int .i64 64]
  have hW6 := hW5.alloc hW5.size (.cells #[.int .i64 52, .int .i64 11, .int .i64 64] 167)
  have F_0 := hF6.cell 0 rfl
  have F_1 := hF6.cell 1 rfl
  have F_2 := hF6.cell 2 rfl
  have G_0 := hG6.cell 0 rfl
  have G_1 := hG6.cell 1 rfl
  have G_2 := hG6.cell 2 rfl
  go_wp2_with fail
  generalize w5.alloc (.cells #[.int .i64 52, .int .i64 11, .int .i64 64] 167) = V7 at *
  clear F_0 F_1 F_2
  clear G_0 G_1 G_2
  refine (hparts _).mono ?_
  rintro e w8 ⟨rfl, hb8⟩
  have hW8 := hW6.trans (hb8.mono hW6.size)
  have hF8 := hF6.below hb8
  have hG8 := hG6.below hb8
  have F_0 := hF8.cell 0 rfl
  have F_1 := hF8.cell 1 rfl
  have F_2 := hF8.cell 2 rfl
  have G_0 := hG8.cell 0 rfl
  have G_1 := hG8.cell 1 rfl
  have G_2 := hG8.cell 2 rfl
  go_wp2_with fail
  refine (hok _).mono ?_
  rintro e v9 ⟨rfl, rfl⟩
  go_wp2_with fail
  refine (hj _).mono ?_
  rintro e w9 ⟨rfl, hb9⟩
  have hW9 := hW8.trans (hb9.mono hW8.size)
  have hF9 := hF8.below hb9
  have hG9 := hG8.below hb9
  go_wp2
  go_ret2
  exact ⟨by rw [HR.out] <;> rfl, hW9⟩

set_option maxRecDepth 100000 in
set_option maxHeartbeats 4000000 in
theorem widen32_main (b : Nat) (hb2 : b < 2 ^ 32) (he : b / 8388608 % 256 ≠ 0 ∧ b / 8388608 % 256 ≠ 255) (w : World) :
    Calls Tryz.prog 93 #[.int .u64 b, .int .i64 32] w fun e w' => e = .returned (.tuple #[.int .u64 (widV f32 b : Nat), .int .i64 0]) ∧ Below w.heap.size w w' := by
  have hbC : b / 2147483648 < 2 := by omega
  have hb : b < 18446744073709551616 := by omega
  have hl : (Lib.bitLen b : Int) ≤ 32 := by have := (len_le (n := 32) hb (by omega)).2 hb2; omega
  have hof := fun W => fof_calls 32 W
  change ∀ W, Calls _ _ _ _ fun e w' => e = .returned (.tuple #[.agg #[.int .i64 23, .int .i64 8, .int .i64 32], .bool true]) ∧ _ at hof
  have hlen := fun W => same_symm (Tryz.bits_Len64 (b : Int) W (by omega) (by omega))
  rw [Int.toNat_natCast] at hlen
  obtain ⟨L, hL⟩ : ∃ L, Lib.bitLen b = L := ⟨_, rfl⟩
  rw [hL] at hlen hl
  have hl2 : ¬ (32 : Int) < (L : Int) := by omega
  have hwide := wide_calls
  have hparts := fun W => parts32_calls b hb W
  have heq := eqF32
  have hg := guardF
  have hok := fun W => ones_calls 8 (by decide) W
  change ∀ W, Calls _ _ #[.int .i64 8] _ fun e w' => e = .returned (.int .u64 255) ∧ _ at hok
  have ho11 := fun W => ones_calls 11 (by decide) W
  change ∀ W, Calls _ _ #[.int .i64 11] _ fun e w' => e = .returned (.int .u64 2047) ∧ _ at ho11
  have hmod : b / 2147483648 % 2 = b / 2147483648 := Nat.mod_eq_of_lt hbC
  rw [hmod] at hparts
  have hV : widV f32 b = widV f32 b := rfl
  conv at hV => rhs; unfold widV
  change widV f32 b = (if b / 8388608 % 256 = 255 then b / 2147483648 * C64 + 2047 * A64 + b % 8388608 * 536870912 else if b / 8388608 % 256 = 0 then (if b % 8388608 = 0 then b / 2147483648 * C64 else b / 2147483648 * C64 + (1024 - 127 - up f32 (b % 8388608)) * A64 + (b % 8388608 * 2 ^ up f32 (b % 8388608) - 8388608) * 536870912) else b / 2147483648 * C64 + (b / 8388608 % 256 + 1023 - 127) * A64 + b % 8388608 * 536870912) at hV
  obtain ⟨s, hs⟩ : ∃ s, b / 2147483648 = s := ⟨_, rfl⟩
  obtain ⟨e, he'⟩ : ∃ e, b / 8388608 % 256 = e := ⟨_, rfl⟩
  obtain ⟨f, hf⟩ : ∃ f, b % 8388608 = f := ⟨_, rfl⟩
  have hfl : f < 8388608 := by omega
  have hel : e < 256 := by omega
  rw [hs, he', hf] at hparts hV
  rw [hs] at hbC
  rw [he'] at he
  rw [if_neg he.2, if_neg he.1] at hV
  have hne : ((e : Int) == 255) = false := by rw [beq_eq_false_iff_ne]; omega
  have hne0 : ((e : Int) == 0) = false := by rw [beq_eq_false_iff_ne]; omega
  obtain ⟨E, hE⟩ : ∃ E, e + 1023 - 127 = E := ⟨_, rfl⟩
  obtain ⟨gd, hgd⟩ : ∃ v, f * 536870912 = v := ⟨_, rfl⟩
  have hj := fun W => joined64_calls s E gd hbC (by omega) (by omega) W
  obtain ⟨v, hv⟩ : ∃ v, s * 9223372036854775808 + E * 4503599627370496 + gd = v := ⟨_, rfl⟩
  rw [hv] at hj
  have HR := hid (show widV f32 b = v by rw [hV, hE, hgd]; exact hv)
  have hc1 : (f : Int) * 536870912 = (gd : Int) := by omega
  have hw1 : IntKind.u64.wrap (gd : Int) = (gd : Int) := IntWalk.u64_in _ (by omega)
  obtain ⟨y1, hy1⟩ : ∃ y : Int, (e : Int) - 127 = y := ⟨_, rfl⟩
  have hy2 : y1 + 1023 = (E : Int) := by omega
  have hyw : IntKind.i64.wrap y1 = y1 := IntWalk.i64_in _ (by omega)
  have hyE : IntKind.i64.wrap (E : Int) = (E : Int) := IntWalk.i64_in _ (by omega)
  have hw3 : IntKind.i64.wrap 255 = 255 := by decide
  clear hV hv hL hl hs he' hf hmod hel hfl hb2 hE hgd he
  go_enter Tryz.func93, Tryz.ntmps93
  go_wp2_with fail
  refine (hof _).mono ?_
  rintro e w1 ⟨rfl, hb1⟩
  have hW1 := hb1
  have hF2 := Cls.new w1 167 [.int .i64 23, .int .i64 8, .int .i64 32]
  have hW2 := hW1.alloc hW1.size (.cells #[.int .i64 23, .int .i64 8, .int .i64 32] 167)
  go_wp2_with fail
  generalize w1.alloc (.cells #[.int .i64 23, .int .i64 8, .int .i64 32] 167) = V3 at *
  refine (hlen _).mono ?_
  rintro e v4 ⟨rfl, rfl⟩
  go_wp2_with fail
  refine (hwide _).mono ?_
  rintro e w5 ⟨rfl, hb5⟩
  have hW5 := hW2.trans (hb5.mono hW2.size)
  have hF5 := hF2.below hb5
  have hF6 := hF5.alloc (.cells #[.int .i64 52, .int .i64 11, .int .i64 64] 167)
  have hG6 := Cls.new w5 167 [.int .i64 52, .int .i64 11, .int .i64 64]
  have hW6 := hW5.alloc hW5.size (.cells #[.int .i64 52, .int .i64 11, .int .i64 64] 167)
  have F_0 := hF6.cell 0 rfl
  have F_1 := hF6.cell 1 rfl
  have F_2 := hF6.cell 2 rfl
  have G_0 := hG6.cell 0 rfl
  have G_1 := hG6.cell 1 rfl
  have G_2 := hG6.cell 2 rfl
  go_wp2_with fail
  generalize w5.alloc (.cells #[.int .i64 52, .int .i64 11, .int .i64 64] 167) = V7 at *
  clear F_0 F_1 F_2
  clear G_0 G_1 G_2
  refine (hparts _).mono ?_
  rintro e w8 ⟨rfl, hb8⟩
  have hW8 := hW6.trans (hb8.mono hW6.size)
  have hF8 := hF6.below hb8
  have hG8 := hG6.below hb8
  have F_0 := hF8.cell 0 rfl
  have F_1 := hF8.cell 1 rfl
  have F_2 := hF8.cell 2 rfl
  have G_0 := hG8.cell 0 rfl
  have G_1 := hG8.cell 1 rfl
  have G_2 := hG8.cell 2 rfl
  go_wp2_with fail
  refine (hok _).mono ?_
  rintro e v9 ⟨rfl, rfl⟩
  go_wp2_with fail
  have hWW := hW8
  go_region_held3 (fun w' => w'.cell? ⟨w1.heap.size, 0, none⟩ = some (.int .i64 23) ∧ w'.cell? ⟨w1.heap.size, 1, none⟩ = some (.int .i64 8) ∧ w'.cell? ⟨w1.heap.size, 2, none⟩ = some (.int .i64 32) ∧ w'.cell? ⟨w5.heap.size, 0, none⟩ = some (.int .i64 52) ∧ w'.cell? ⟨w5.heap.size, 1, none⟩ = some (.int .i64 11) ∧ w'.cell? ⟨w5.heap.size, 2, none⟩ = some (.int .i64 64) ∧ Below w.heap.size w w')
    (first
      | (refine ⟨?_, ?_, ?_, ?_, ?_, ?_, ?_⟩ <;> first | assumption | exact cell_below (by assumption) hbX | exact below_nextF (by assumption) hbX | exact Below.drew (by assumption))
      | go_keep
      | (go_split_ands
         refine ⟨?_, ?_, ?_, ?_, ?_, ?_, ?_⟩ <;> first | assumption | exact cell_below (by assumption) hbX | exact below_nextF (by assumption) hbX | exact Below.drew (by assumption)))
    (first
      | (go_at_call_of 134 (Value.agg #[.int .i64 23, .int .i64 8, .int .i64 32]); refine (bias32_calls _).mono ?_; rintro e wa ⟨rfl, hbX⟩)
      | (go_at_call_of 134 (Value.agg #[.int .i64 52, .int .i64 11, .int .i64 64]); refine (bias64_calls _).mono ?_; rintro e wc ⟨rfl, hbX⟩)
      | (go_at_call 133; refine (hj _).mono ?_; rintro e wr ⟨rfl, hbX⟩))
  all_goals (
    go_wp2
    go_ret2
    go_split_ands
    exact ⟨by rw [HR.out] <;> rfl, by assumption⟩)
end Go.Proofs.YtpjlepkdiaohiaaGreatDoor

/- Package float: Widen, small numbers: walked. -/
namespace Go.Proofs.YtpjlepkdiaohiaaGreatDoor
open Go.RowKit Go.Shelf
attribute [local go_sem] Oper.semAt_some

set_option maxRecDepth 100000 in
set_option maxHeartbeats 4000000 in
theorem widen16_sub (b : Nat) (hb2 : b < 2 ^ 16) (he : b / 1024 % 32 = 0) (hf0 : b % 1024 ≠ 0) (w : World) :
    Calls Tryz.prog 93 #[.int .u64 b, .int .i64 16] w fun e w' => e = .returned (.tuple #[.int .u64 (widV f16 b : Nat), .int .i64 0]) ∧ Below w.heap.size w w' := by
  have hbC : b / 32768 < 2 := by omega
  have hb : b < 18446744073709551616 := by omega
  have hl : (Lib.bitLen b : Int) ≤ 16 := by have := (len_le (n := 16) hb (by omega)).2 hb2; omega
  have hof := fun W => fof_calls 16 W
  change ∀ W, Calls _ _ _ _ fun e w' => e = .returned (.tuple #[.agg #[.int .i64 10, .int .i64 5, .int .i64 16], .bool true]) ∧ _ at hof
  have hlen := fun W => same_symm (Tryz.bits_Len64 (b : Int) W (by omega) (by omega))
  rw [Int.toNat_natCast] at hlen
  obtain ⟨L, hL⟩ : ∃ L, Lib.bitLen b = L := ⟨_, rfl⟩
  rw [hL] at hlen hl
  have hl2 : ¬ (16 : Int) < (L : Int) := by omega
  have hwide := wide_calls
  have hparts := fun W => parts16_calls b hb W
  have heq := eqF16
  have hg := guardF
  have hok := fun W => ones_calls 5 (by decide) W
  change ∀ W, Calls _ _ #[.int .i64 5] _ fun e w' => e = .returned (.int .u64 31) ∧ _ at hok
  have ho11 := fun W => ones_calls 11 (by decide) W
  change ∀ W, Calls _ _ #[.int .i64 11] _ fun e w' => e = .returned (.int .u64 2047) ∧ _ at ho11
  have hmod : b / 32768 % 2 = b / 32768 := Nat.mod_eq_of_lt hbC
  rw [hmod] at hparts
  have hV : widV f16 b = widV f16 b := rfl
  conv at hV => rhs; unfold widV
  change widV f16 b = (if b / 1024 % 32 = 31 then b / 32768 * C64 + 2047 * A64 + b % 1024 * 4398046511104 else if b / 1024 % 32 = 0 then (if b % 1024 = 0 then b / 32768 * C64 else b / 32768 * C64 + (1024 - 15 - up f16 (b % 1024)) * A64 + (b % 1024 * 2 ^ up f16 (b % 1024) - 1024) * 4398046511104) else b / 32768 * C64 + (b / 1024 % 32 + 1023 - 15) * A64 + b % 1024 * 4398046511104) at hV
  obtain ⟨s, hs⟩ : ∃ s, b / 32768 = s := ⟨_, rfl⟩
  obtain ⟨e, he'⟩ : ∃ e, b / 1024 % 32 = e := ⟨_, rfl⟩
  obtain ⟨f, hf⟩ : ∃ f, b % 1024 = f := ⟨_, rfl⟩
  have hfl : f < 1024 := by omega
  have hel : e < 32 := by omega
  rw [hs, he', hf] at hparts hV
  rw [hs] at hbC
  rw [he'] at he
  rw [hf] at hf0
  subst he
  rw [if_neg (by decide), if_pos rfl, if_neg hf0] at hV
  change ∀ W, Calls _ _ _ _ fun e w' => e = .returned (.tuple #[_, .int .i64 0, _]) ∧ _ at hparts
  obtain ⟨u1, u2, u3, u4⟩ := up_spec f16 (by first | exact .inl rfl | exact .inr rfl) hf0 hfl
  change up f16 f ≤ 10 at u2
  change 1024 ≤ f * 2 ^ up f16 f at u3
  change f * 2 ^ up f16 f < 2 * 1024 at u4
  have hU : 10 + 1 - Lib.bitLen f = up f16 f := rfl
  obtain ⟨U, hUe⟩ : ∃ U, up f16 f = U := ⟨_, rfl⟩
  rw [hUe] at u1 u2 u3 u4 hU hV
  have hlenf := fun W => Tryz.bits_Len64 (f : Int) W (by omega) (by omega)
  rw [Int.toNat_natCast] at hlenf
  obtain ⟨M, hM⟩ : ∃ M, Lib.bitLen f = M := ⟨_, rfl⟩
  rw [hM] at hlenf hU
  obtain ⟨P, hP⟩ : ∃ P : Nat, 2 ^ U = P := ⟨_, rfl⟩
  rw [hP] at u3 u4 hV
  have hPi : (2 : Int) ^ U = (P : Int) := by rw [pow_cast, hP]
  obtain ⟨fP, hfP⟩ : ∃ v, f * P = v := ⟨_, rfl⟩
  rw [hfP] at u3 u4 hV
  obtain ⟨g, hg'⟩ : ∃ g, fP - 1024 = g := ⟨_, rfl⟩
  rw [hg'] at hV
  have hand := and_mask (x := fP) (n := 10) (by omega) (1024 - 1) (by decide) (by decide)
  change bits .and .u64 (fP : Int) 1023 = ((fP % 1024 : Nat) : Int) at hand
  rw [show fP % 1024 = g by omega] at hand
  have hop := fun W => ones_calls 10 (by decide) W
  change ∀ W, Calls _ _ #[.int .i64 10] _ fun e w' => e = .returned (.int .u64 1023) ∧ _ at hop
  have hne : ((0 : Int) == 31) = false := by decide
  have hfne : ((f : Int) == 0) = false := by rw [beq_eq_false_iff_ne]; omega
  obtain ⟨E, hE⟩ : ∃ E, 1024 - 15 - U = E := ⟨_, rfl⟩
  rw [hE] at hV
  obtain ⟨gd, hgd⟩ : ∃ v, g * 4398046511104 = v := ⟨_, rfl⟩
  rw [hgd] at hV
  have hj := fun W => joined64_calls s E gd hbC (by omega) (by omega) W
  obtain ⟨v, hv⟩ : ∃ v, s * 9223372036854775808 + E * 4503599627370496 + gd = v := ⟨_, rfl⟩
  rw [hv] at hj
  have HR := hid (show widV f16 b = v from hV.trans hv)
  have hq1 : (11 : Int) - (M : Int) = (U : Int) := by omega
  have hq2 : (f : Int) * (P : Int) = (fP : Int) := by rw [← hfP]; exact (Int.natCast_mul f P).symm
  have hw4 : IntKind.u64.wrap (fP : Int) = (fP : Int) := IntWalk.u64_in _ (by omega)
  have hc1 : (g : Int) * 4398046511104 = (gd : Int) := by omega
  have hw1 : IntKind.u64.wrap (gd : Int) = (gd : Int) := IntWalk.u64_in _ (by omega)
  obtain ⟨y0, hy0⟩ : ∃ y : Int, (1 : Int) - (U : Int) = y := ⟨_, rfl⟩
  obtain ⟨y1, hy1⟩ : ∃ y : Int, y0 - 15 = y := ⟨_, rfl⟩
  have hy2 : y1 + 1023 = (E : Int) := by omega
  have hyw0 : IntKind.i64.wrap y0 = y0 := IntWalk.i64_in _ (by omega)
  have hyw : IntKind.i64.wrap y1 = y1 := IntWalk.i64_in _ (by omega)
  have hyE : IntKind.i64.wrap (E : Int) = (E : Int) := IntWalk.i64_in _ (by omega)
  have hyU : IntKind.i64.wrap (U : Int) = (U : Int) := IntWalk.i64_in _ (by omega)
  have hw3 : IntKind.i64.wrap 31 = 31 := by decide
  have hw5 : IntKind.i64.wrap 11 = 11 := by decide
  have hU64 : (U : Int) ≤ 64 := by omega
  clear hV hv hL hl hs he' hf hmod hfl hb2 hE hgd hU hUe hM hP hfP hg' u1 u2 u3 u4 hf0
  go_enter Tryz.func93, Tryz.ntmps93
  go_wp2_with fail
  refine (hof _).mono ?_
  rintro e w1 ⟨rfl, hb1⟩
  have hW1 := hb1
  have hF2 := Cls.new w1 167 [.int .i64 10, .int .i64 5, .int .i64 16]
  have hW2 := hW1.alloc hW1.size (.cells #[.int .i64 10, .int .i64 5, .int .i64 16] 167)
  go_wp2_with fail
  generalize w1.alloc (.cells #[.int .i64 10, .int .i64 5, .int .i64 16] 167) = V3 at *
  refine (hlen _).mono ?_
  rintro e v4 ⟨rfl, rfl⟩
  go_wp2_with fail
  refine (hwide _).mono ?_
  rintro e w5 ⟨rfl, hb5⟩
  have hW5 := hW2.trans (hb5.mono hW2.size)
  have hF5 := hF2.below hb5
  have hF6 := hF5.alloc (.cells #[.int .i64 52, .int .i64 11, .int .i64 64] 167)
  have hG6 := Cls.new w5 167 [.int .i64 52, .int .i64 11, .int .i64 64]
  have hW6 := hW5.alloc hW5.size (.cells #[.int .i64 52, .int .i64 11, .int .i64 64] 167)
  have F_0 := hF6.cell 0 rfl
  have F_1 := hF6.cell 1 rfl
  have F_2 := hF6.cell 2 rfl
  have G_0 := hG6.cell 0 rfl
  have G_1 := hG6.cell 1 rfl
  have G_2 := hG6.cell 2 rfl
  go_wp2_with fail
  generalize w5.alloc (.cells #[.int .i64 52, .int .i64 11, .int .i64 64] 167) = V7 at *
  clear F_0 F_1 F_2
  clear G_0 G_1 G_2
  refine (hparts _).mono ?_
  rintro e w8 ⟨rfl, hb8⟩
  have hW8 := hW6.trans (hb8.mono hW6.size)
  have hF8 := hF6.below hb8
  have hG8 := hG6.below hb8
  have F_0 := hF8.cell 0 rfl
  have F_1 := hF8.cell 1 rfl
  have F_2 := hF8.cell 2 rfl
  have G_0 := hG8.cell 0 rfl
  have G_1 := hG8.cell 1 rfl
  have G_2 := hG8.cell 2 rfl
  go_wp2_with fail
  refine (hok _).mono ?_
  rintro e v9 ⟨rfl, rfl⟩
  go_wp2_with fail
  go_quiet ((go_at_call 129; refine Calls.quiet_of_same (hlenf _)))
  go_wp2
  have hFq1 : Cls (w8.drewN nq) (w1.heap.size) 167 _ := hF8
  have hGq1 : Cls (w8.drewN nq) (w5.heap.size) 167 _ := hG8
  have hWq1 : Below w.heap.size w (w8.drewN nq) := belowN hW8 nq
  clear F_0 F_1 F_2
  clear G_0 G_1 G_2
  generalize w8.drewN nq = Z1 at *
  have F_0 := hFq1.cell 0 rfl
  have F_1 := hFq1.cell 1 rfl
  have F_2 := hFq1.cell 2 rfl
  have G_0 := hGq1.cell 0 rfl
  have G_1 := hGq1.cell 1 rfl
  have G_2 := hGq1.cell 2 rfl
  go_quiet ((go_at_call 132; refine Calls.quiet_of_same (same_flip (hop _))))
  go_wp2
  have hFq2 : Cls (Z1.drewN nq) (w1.heap.size) 167 _ := hFq1
  have hGq2 : Cls (Z1.drewN nq) (w5.heap.size) 167 _ := hGq1
  have hWq2 : Below w.heap.size w (Z1.drewN nq) := belowN hWq1 nq
  clear F_0 F_1 F_2
  clear G_0 G_1 G_2
  generalize Z1.drewN nq = Z2 at *
  have F_0 := hFq2.cell 0 rfl
  have F_1 := hFq2.cell 1 rfl
  have F_2 := hFq2.cell 2 rfl
  have G_0 := hGq2.cell 0 rfl
  have G_1 := hGq2.cell 1 rfl
  have G_2 := hGq2.cell 2 rfl
  have hWW := hWq2
  go_region_held3 (fun w' => w'.cell? ⟨w1.heap.size, 0, none⟩ = some (.int .i64 10) ∧ w'.cell? ⟨w1.heap.size, 1, none⟩ = some (.int .i64 5) ∧ w'.cell? ⟨w1.heap.size, 2, none⟩ = some (.int .i64 16) ∧ w'.cell? ⟨w5.heap.size, 0, none⟩ = some (.int .i64 52) ∧ w'.cell? ⟨w5.heap.size, 1, none⟩ = some (.int .i64 11) ∧ w'.cell? ⟨w5.heap.size, 2, none⟩ = some (.int .i64 64) ∧ Below w.heap.size w w')
    (first
      | (refine ⟨?_, ?_, ?_, ?_, ?_, ?_, ?_⟩ <;> first | assumption | exact cell_below (by assumption) hbX | exact below_nextF (by assumption) hbX | exact Below.drew (by assumption))
      | go_keep
      | (go_split_ands
         refine ⟨?_, ?_, ?_, ?_, ?_, ?_, ?_⟩ <;> first | assumption | exact cell_below (by assumption) hbX | exact below_nextF (by assumption) hbX | exact Below.drew (by assumption)))
    (first
      | (go_at_call_of 134 (Value.agg #[.int .i64 10, .int .i64 5, .int .i64 16]); refine (bias16_calls _).mono ?_; rintro e wa ⟨rfl, hbX⟩)
      | (go_at_call_of 134 (Value.agg #[.int .i64 52, .int .i64 11, .int .i64 64]); refine (bias64_calls _).mono ?_; rintro e wc ⟨rfl, hbX⟩)
      | (go_at_call 133; refine (hj _).mono ?_; rintro e wr ⟨rfl, hbX⟩))
  all_goals (
    go_wp2
    go_ret2
    go_split_ands
    exact ⟨by rw [HR.out] <;> rfl, by assumption⟩)

set_option maxRecDepth 100000 in
set_option maxHeartbeats 4000000 in
theorem widen32_sub (b : Nat) (hb2 : b < 2 ^ 32) (he : b / 8388608 % 256 = 0) (hf0 : b % 8388608 ≠ 0) (w : World) :
    Calls Tryz.prog 93 #[.int .u64 b, .int .i64 32] w fun e w' => e = .returned (.tuple #[.int .u64 (widV f32 b : Nat), .int .i64 0]) ∧ Below w.heap.size w w' := by
  have hbC : b / 2147483648 < 2 := by omega
  have hb : b < 18446744073709551616 := by omega
  have hl : (Lib.bitLen b : Int) ≤ 32 := by have := (len_le (n := 32) hb (by omega)).2 hb2; omega
  have hof := fun W => fof_calls 32 W
  change ∀ W, Calls _ _ _ _ fun e w' => e = .returned (.tuple #[.agg #[.int .i64 23, .int .i64 8, .int .i64 32], .bool true]) ∧ _ at hof
  have hlen := fun W => same_symm (Tryz.bits_Len64 (b : Int) W (by omega) (by omega))
  rw [Int.toNat_natCast] at hlen
  obtain ⟨L, hL⟩ : ∃ L, Lib.bitLen b = L := ⟨_, rfl⟩
  rw [hL] at hlen hl
  have hl2 : ¬ (32 : Int) < (L : Int) := by omega
  have hwide := wide_calls
  have hparts := fun W => parts32_calls b hb W
  have heq := eqF32
  have hg := guardF
  have hok := fun W => ones_calls 8 (by decide) W
  change ∀ W, Calls _ _ #[.int .i64 8] _ fun e w' => e = .returned (.int .u64 255) ∧ _ at hok
  have ho11 := fun W => ones_calls 11 (by decide) W
  change ∀ W, Calls _ _ #[.int .i64 11] _ fun e w' => e = .returned (.int .u64 2047) ∧ _ at ho11
  have hmod : b / 2147483648 % 2 = b / 2147483648 := Nat.mod_eq_of_lt hbC
  rw [hmod] at hparts
  have hV : widV f32 b = widV f32 b := rfl
  conv at hV => rhs; unfold widV
  change widV f32 b = (if b / 8388608 % 256 = 255 then b / 2147483648 * C64 + 2047 * A64 + b % 8388608 * 536870912 else if b / 8388608 % 256 = 0 then (if b % 8388608 = 0 then b / 2147483648 * C64 else b / 2147483648 * C64 + (1024 - 127 - up f32 (b % 8388608)) * A64 + (b % 8388608 * 2 ^ up f32 (b % 8388608) - 8388608) * 536870912) else b / 2147483648 * C64 + (b / 8388608 % 256 + 1023 - 127) * A64 + b % 8388608 * 536870912) at hV
  obtain ⟨s, hs⟩ : ∃ s, b / 2147483648 = s := ⟨_, rfl⟩
  obtain ⟨e, he'⟩ : ∃ e, b / 8388608 % 256 = e := ⟨_, rfl⟩
  obtain ⟨f, hf⟩ : ∃ f, b % 8388608 = f := ⟨_, rfl⟩
  have hfl : f < 8388608 := by omega
  have hel : e < 256 := by omega
  rw [hs, he', hf] at hparts hV
  rw [hs] at hbC
  rw [he'] at he
  rw [hf] at hf0
  subst he
  rw [if_neg (by decide), if_pos rfl, if_neg hf0] at hV
  change ∀ W, Calls _ _ _ _ fun e w' => e = .returned (.tuple #[_, .int .i64 0, _]) ∧ _ at hparts
  obtain ⟨u1, u2, u3, u4⟩ := up_spec f32 (by first | exact .inl rfl | exact .inr rfl) hf0 hfl
  change up f32 f ≤ 23 at u2
  change 8388608 ≤ f * 2 ^ up f32 f at u3
  change f * 2 ^ up f32 f < 2 * 8388608 at u4
  have hU : 23 + 1 - Lib.bitLen f = up f32 f := rfl
  obtain ⟨U, hUe⟩ : ∃ U, up f32 f = U := ⟨_, rfl⟩
  rw [hUe] at u1 u2 u3 u4 hU hV
  have hlenf := fun W => Tryz.bits_Len64 (f : Int) W (by omega) (by omega)
  rw [Int.toNat_natCast] at hlenf
  obtain ⟨M, hM⟩ : ∃ M, Lib.bitLen f = M := ⟨_, rfl⟩
  rw [hM] at hlenf hU
  obtain ⟨P, hP⟩ : ∃ P : Nat, 2 ^ U = P := ⟨_, rfl⟩
  rw [hP] at u3 u4 hV
  have hPi : (2 : Int) ^ U = (P : Int) := by rw [pow_cast, hP]
  obtain ⟨fP, hfP⟩ : ∃ v, f * P = v := ⟨_, rfl⟩
  rw [hfP] at u3 u4 hV
  obtain ⟨g, hg'⟩ : ∃ g, fP - 8388608 = g := ⟨_, rfl⟩
  rw [hg'] at hV
  have hand := and_mask (x := fP) (n := 23) (by omega) (8388608 - 1) (by decide) (by decide)
  change bits .and .u64 (fP : Int) 8388607 = ((fP % 8388608 : Nat) : Int) at hand
  rw [show fP % 8388608 = g by omega] at hand
  have hop := fun W => ones_calls 23 (by decide) W
  change ∀ W, Calls _ _ #[.int .i64 23] _ fun e w' => e = .returned (.int .u64 8388607) ∧ _ at hop
  have hne : ((0 : Int) == 255) = false := by decide
  have hfne : ((f : Int) == 0) = false := by rw [beq_eq_false_iff_ne]; omega
  obtain ⟨E, hE⟩ : ∃ E, 1024 - 127 - U = E := ⟨_, rfl⟩
  rw [hE] at hV
  obtain ⟨gd, hgd⟩ : ∃ v, g * 536870912 = v := ⟨_, rfl⟩
  rw [hgd] at hV
  have hj := fun W => joined64_calls s E gd hbC (by omega) (by omega) W
  obtain ⟨v, hv⟩ : ∃ v, s * 9223372036854775808 + E * 4503599627370496 + gd = v := ⟨_, rfl⟩
  rw [hv] at hj
  have HR := hid (show widV f32 b = v from hV.trans hv)
  have hq1 : (24 : Int) - (M : Int) = (U : Int) := by omega
  have hq2 : (f : Int) * (P : Int) = (fP : Int) := by rw [← hfP]; exact (Int.natCast_mul f P).symm
  have hw4 : IntKind.u64.wrap (fP : Int) = (fP : Int) := IntWalk.u64_in _ (by omega)
  have hc1 : (g : Int) * 536870912 = (gd : Int) := by omega
  have hw1 : IntKind.u64.wrap (gd : Int) = (gd : Int) := IntWalk.u64_in _ (by omega)
  obtain ⟨y0, hy0⟩ : ∃ y : Int, (1 : Int) - (U : Int) = y := ⟨_, rfl⟩
  obtain ⟨y1, hy1⟩ : ∃ y : Int, y0 - 127 = y := ⟨_, rfl⟩
  have hy2 : y1 + 1023 = (E : Int) := by omega
  have hyw0 : IntKind.i64.wrap y0 = y0 := IntWalk.i64_in _ (by omega)
  have hyw : IntKind.i64.wrap y1 = y1 := IntWalk.i64_in _ (by omega)
  have hyE : IntKind.i64.wrap (E : Int) = (E : Int) := IntWalk.i64_in _ (by omega)
  have hyU : IntKind.i64.wrap (U : Int) = (U : Int) := IntWalk.i64_in _ (by omega)
  have hw3 : IntKind.i64.wrap 255 = 255 := by decide
  have hw5 : IntKind.i64.wrap 24 = 24 := by decide
  have hU64 : (U : Int) ≤ 64 := by omega
  clear hV hv hL hl hs he' hf hmod hfl hb2 hE hgd hU hUe hM hP hfP hg' u1 u2 u3 u4 hf0
  go_enter Tryz.func93, Tryz.ntmps93
  go_wp2_with fail
  refine (hof _).mono ?_
  rintro e w1 ⟨rfl, hb1⟩
  have hW1 := hb1
  have hF2 := Cls.new w1 167 [.int .i64 23, .int .i64 8, .int .i64 32]
  have hW2 := hW1.alloc hW1.size (.cells #[.int .i64 23, .int .i64 8, .int .i64 32] 167)
  go_wp2_with fail
  generalize w1.alloc (.cells #[.int .i64 23, .int .i64 8, .int .i64 32] 167) = V3 at *
  refine (hlen _).mono ?_
  rintro e v4 ⟨rfl, rfl⟩
  go_wp2_with fail
  refine (hwide _).mono ?_
  rintro e w5 ⟨rfl, hb5⟩
  have hW5 := hW2.trans (hb5.mono hW2.size)
  have hF5 := hF2.below hb5
  have hF6 := hF5.alloc (.cells #[.int .i64 52, .int .i64 11, .int .i64 64] 167)
  have hG6 := Cls.new w5 167 [.int .i64 52, .int .i64 11, .int .i64 64]
  have hW6 := hW5.alloc hW5.size (.cells #[.int .i64 52, .int .i64 11, .int .i64 64] 167)
  have F_0 := hF6.cell 0 rfl
  have F_1 := hF6.cell 1 rfl
  have F_2 := hF6.cell 2 rfl
  have G_0 := hG6.cell 0 rfl
  have G_1 := hG6.cell 1 rfl
  have G_2 := hG6.cell 2 rfl
  go_wp2_with fail
  generalize w5.alloc (.cells #[.int .i64 52, .int .i64 11, .int .i64 64] 167) = V7 at *
  clear F_0 F_1 F_2
  clear G_0 G_1 G_2
  refine (hparts _).mono ?_
  rintro e w8 ⟨rfl, hb8⟩
  have hW8 := hW6.trans (hb8.mono hW6.size)
  have hF8 := hF6.below hb8
  have hG8 := hG6.below hb8
  have F_0 := hF8.cell 0 rfl
  have F_1 := hF8.cell 1 rfl
  have F_2 := hF8.cell 2 rfl
  have G_0 := hG8.cell 0 rfl
  have G_1 := hG8.cell 1 rfl
  have G_2 := hG8.cell 2 rfl
  go_wp2_with fail
  refine (hok _).mono ?_
  rintro e v9 ⟨rfl, rfl⟩
  go_wp2_with fail
  go_quiet ((go_at_call 129; refine Calls.quiet_of_same (hlenf _)))
  go_wp2
  have hFq1 : Cls (w8.drewN nq) (w1.heap.size) 167 _ := hF8
  have hGq1 : Cls (w8.drewN nq) (w5.heap.size) 167 _ := hG8
  have hWq1 : Below w.heap.size w (w8.drewN nq) := belowN hW8 nq
  clear F_0 F_1 F_2
  clear G_0 G_1 G_2
  generalize w8.drewN nq = Z1 at *
  have F_0 := hFq1.cell 0 rfl
  have F_1 := hFq1.cell 1 rfl
  have F_2 := hFq1.cell 2 rfl
  have G_0 := hGq1.cell 0 rfl
  have G_1 := hGq1.cell 1 rfl
  have G_2 := hGq1.cell 2 rfl
  go_quiet ((go_at_call 132; refine Calls.quiet_of_same (same_flip (hop _))))
  go_wp2
  have hFq2 : Cls (Z1.drewN nq) (w1.heap.size) 167 _ := hFq1
  have hGq2 : Cls (Z1.drewN nq) (w5.heap.size) 167 _ := hGq1
  have hWq2 : Below w.heap.size w (Z1.drewN nq) := belowN hWq1 nq
  clear F_0 F_1 F_2
  clear G_0 G_1 G_2
  generalize Z1.drewN nq = Z2 at *
  have F_0 := hFq2.cell 0 rfl
  have F_1 := hFq2.cell 1 rfl
  have F_2 := hFq2.cell 2 rfl
  have G_0 := hGq2.cell 0 rfl
  have G_1 := hGq2.cell 1 rfl
  have G_2 := hGq2.cell 2 rfl
  have hWW := hWq2
  go_region_held3 (fun w' => w'.cell? ⟨w1.heap.size, 0, none⟩ = some (.int .i64 23) ∧ w'.cell? ⟨w1.heap.size, 1, none⟩ = some (.int .i64 8) ∧ w'.cell? ⟨w1.heap.size, 2, none⟩ = some (.int .i64 32) ∧ w'.cell? ⟨w5.heap.size, 0, none⟩ = some (.int .i64 52) ∧ w'.cell? ⟨w5.heap.size, 1, none⟩ = some (.int .i64 11) ∧ w'.cell? ⟨w5.heap.size, 2, none⟩ = some (.int .i64 64) ∧ Below w.heap.size w w')
    (first
      | (refine ⟨?_, ?_, ?_, ?_, ?_, ?_, ?_⟩ <;> first | assumption | exact cell_below (by assumption) hbX | exact below_nextF (by assumption) hbX | exact Below.drew (by assumption))
      | go_keep
      | (go_split_ands
         refine ⟨?_, ?_, ?_, ?_, ?_, ?_, ?_⟩ <;> first | assumption | exact cell_below (by assumption) hbX | exact below_nextF (by assumption) hbX | exact Below.drew (by assumption)))
    (first
      | (go_at_call_of 134 (Value.agg #[.int .i64 23, .int .i64 8, .int .i64 32]); refine (bias32_calls _).mono ?_; rintro e wa ⟨rfl, hbX⟩)
      | (go_at_call_of 134 (Value.agg #[.int .i64 52, .int .i64 11, .int .i64 64]); refine (bias64_calls _).mono ?_; rintro e wc ⟨rfl, hbX⟩)
      | (go_at_call 133; refine (hj _).mono ?_; rintro e wr ⟨rfl, hbX⟩))
  all_goals (
    go_wp2
    go_ret2
    go_split_ands
    exact ⟨by rw [HR.out] <;> rfl, by assumption⟩)
theorem isW_cases {x : Int} (h : isW x = true) : x = 16 ∨ x = 32 ∨ x = 64 := by
  unfold isW at h
  rw [Bool.or_eq_true, Bool.or_eq_true, decide_eq_true_eq, decide_eq_true_eq, decide_eq_true_eq] at h
  exact h
theorem len_gt {b n : Nat} (hb : b < 18446744073709551616) (hn : n ≤ 63) (h : ¬ b < 2 ^ n) : (n : Int) < (Lib.bitLen b : Int) := by
  have : ¬ Lib.bitLen b ≤ n := fun h' => h ((len_le hb hn).1 h')
  omega
theorem len_64 {b : Nat} (hb : b < 18446744073709551616) : (Lib.bitLen b : Int) ≤ 64 := by
  have := Lib.bitLen_le b 64 (by omega) hb
  omega

theorem widen_calls (b : Nat) (hb : b < 18446744073709551616) (x : Int) (w : World) :
    Calls Tryz.prog 93 #[.int .u64 b, .int .i64 x] w fun e w' => e = .returned (.tuple #[.int .u64 (widS b x : Nat), .int .i64 (widE b x)]) ∧ Below w.heap.size w w' := by
  cases hx : isW x with
  | false =>
    have h0 : widS b x = 0 ∧ widE b x = 2 := by
      unfold isW at hx
      rw [Bool.or_eq_false_iff, Bool.or_eq_false_iff, decide_eq_false_iff_not, decide_eq_false_iff_not, decide_eq_false_iff_not] at hx
      unfold widS widE fmOf
      rw [if_neg hx.2.2, if_neg hx.2.2, if_neg hx.1, if_neg hx.2.1]
      exact ⟨rfl, rfl⟩
    rw [h0.1, h0.2]
    exact widen_none b x hx w
  | true =>
    rcases isW_cases hx with rfl | rfl | rfl
    · have h0 : widS b 16 = (if b < 65536 then widV f16 b else 0) ∧ widE b 16 = (if b < 65536 then 0 else 2) := ⟨rfl, rfl⟩
      rw [h0.1, h0.2]
      by_cases hl : b < 2 ^ 16
      · rw [if_pos (show b < 65536 from hl), if_pos (show b < 65536 from hl)]
        by_cases h1 : b / 1024 % 32 = 31
        · exact widen16_top b hl h1 w
        · by_cases h2 : b / 1024 % 32 = 0
          · by_cases h3 : b % 1024 = 0
            · exact widen16_zero b hl h2 h3 w
            · exact widen16_sub b hl h2 h3 w
          · exact widen16_main b hl ⟨h2, h1⟩ w
      · rw [if_neg (show ¬ b < 65536 from hl), if_neg (show ¬ b < 65536 from hl)]
        exact widen_long b hb 16 rfl (len_gt (n := 16) hb (by omega) hl) w
    · have h0 : widS b 32 = (if b < 4294967296 then widV f32 b else 0) ∧ widE b 32 = (if b < 4294967296 then 0 else 2) := ⟨rfl, rfl⟩
      rw [h0.1, h0.2]
      by_cases hl : b < 2 ^ 32
      · rw [if_pos (show b < 4294967296 from hl), if_pos (show b < 4294967296 from hl)]
        by_cases h1 : b / 8388608 % 256 = 255
        · exact widen32_top b hl h1 w
        · by_cases h2 : b / 8388608 % 256 = 0
          · by_cases h3 : b % 8388608 = 0
            · exact widen32_zero b hl h2 h3 w
            · exact widen32_sub b hl h2 h3 w
          · exact widen32_main b hl ⟨h2, h1⟩ w
      · rw [if_neg (show ¬ b < 4294967296 from hl), if_neg (show ¬ b < 4294967296 from hl)]
        exact widen_long b hb 32 rfl (len_gt (n := 32) hb (by omega) hl) w
    · have h0 : widS b 64 = b ∧ widE b 64 = 0 := ⟨rfl, rfl⟩
      rw [h0.1, h0.2]
      exact widen_64 b hb (len_64 hb) w
end Go.Proofs.YtpjlepkdiaohiaaGreatDoor

/- Package float: IsWidth, IsFinite: walked. -/
namespace Go.Proofs.YtpjlepkdiaohiaaGreatDoor
open Go.RowKit Go.Shelf
attribute [local go_sem] Oper.semAt_some

end Go.Proofs.YtpjlepkdiaohiaaGreatDoor

