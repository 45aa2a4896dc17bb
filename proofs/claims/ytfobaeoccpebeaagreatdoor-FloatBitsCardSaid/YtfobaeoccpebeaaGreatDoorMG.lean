/- Package float: Narrow to 32: walked. -/
import Derived.Test.YtfobaeoccpebeaaGreatDoorMF
namespace Go.Proofs.YtfobaeoccpebeaaGreatDoor
open Go.RowKit Go.Shelf
attribute [local go_sem] Oper.semAt_some

set_option maxRecDepth 100000 in
set_option maxHeartbeats 4000000 in
theorem narrow32_far (x : Nat) (hx : x < 18446744073709551616) (hno : narV f32 x = none) (h2 : x / 4503599627370496 % 2048 ≠ 2047) (h3 : ¬ (x / 4503599627370496 % 2048 = 0 ∧ x % 4503599627370496 = 0))
    (h4 : ¬ (1023 < x / 4503599627370496 % 2048 + 127 ∧ x / 4503599627370496 % 2048 + 127 < 1023 + 256 - 1)) (h5 : ¬ (0 < x / 4503599627370496 % 2048 ∧ x / 4503599627370496 % 2048 + 127 ≤ 1023 ∧ 1023 < x / 4503599627370496 % 2048 + 127 + 23)) (w : World) :
    Calls Tryz.prog 19 #[.int .u64 x, .int .i64 32] w fun e w' => e = .returned (.tuple #[.int .u64 (narS x 32 : Nat), .bool (narB x 32)]) ∧ Below w.heap.size w w' := by
  have HR := hid (show narS x 32 = 0 ∧ narB x 32 = false by
    have e1 : narS x 32 = (narV f32 x).getD 0 := rfl
    have e2 : narB x 32 = (narV f32 x).isSome := rfl
    rw [e1, e2, hno]
    exact ⟨rfl, rfl⟩)
  have hof := fun W => fof_calls 32 W
  change ∀ W, Calls _ _ _ _ fun e w' => e = .returned (.tuple #[.agg #[.int .i64 23, .int .i64 8, .int .i64 32], .bool true]) ∧ _ at hof
  have heq := eqF32
  have hg := guardF
  have hparts := fun W => parts64_calls x hx W
  have hok := fun W => ones_calls 8 (by decide) W
  change ∀ W, Calls _ _ #[.int .i64 8] _ fun e w' => e = .returned (.int .u64 255) ∧ _ at hok
  have ho11 := fun W => ones_calls 11 (by decide) W
  change ∀ W, Calls _ _ #[.int .i64 11] _ fun e w' => e = .returned (.int .u64 2047) ∧ _ at ho11
  have hoL := fun W => ones_calls 29 (by decide) W
  change ∀ W, Calls _ _ #[.int .i64 29] _ fun e w' => e = .returned (.int .u64 536870911) ∧ _ at hoL
  have hs2 : x / 9223372036854775808 < 2 := by omega
  rw [show x / 9223372036854775808 % 2 = x / 9223372036854775808 from Nat.mod_eq_of_lt hs2] at hparts
  obtain ⟨s, hs⟩ : ∃ s, x / 9223372036854775808 = s := ⟨_, rfl⟩
  obtain ⟨E, he'⟩ : ∃ e, x / 4503599627370496 % 2048 = e := ⟨_, rfl⟩
  obtain ⟨F, hf⟩ : ∃ f, x % 4503599627370496 = f := ⟨_, rfl⟩
  have hFl : F < 4503599627370496 := by omega
  have hEl : E < 2048 := by omega
  rw [hs, he', hf] at hparts
  rw [hs] at hs2
  obtain ⟨y1, hy1⟩ : ∃ y : Int, (E : Int) - 1023 = y := ⟨_, rfl⟩
  obtain ⟨ee, hee⟩ : ∃ y : Int, y1 + 127 = y := ⟨_, rfl⟩
  have hyw : IntKind.i64.wrap y1 = y1 := IntWalk.i64_in _ (by omega)
  have hye : IntKind.i64.wrap ee = ee := IntWalk.i64_in _ (by omega)
  have hw3 : IntKind.i64.wrap 255 = 255 := by decide
  have hw4 : IntKind.i64.wrap 2047 = 2047 := by decide
  rw [he'] at h2 h3 h4 h5
  rw [hf] at h3
  have hne : ((E : Int) == 2047) = false := by rw [beq_eq_false_iff_ne]; omega
  have hz : (((E : Int) == 0) = false ∧ ((0 < ee ∧ ¬ ee < 255) ∨ (¬ 0 < ee ∧ (0 : Int) < (E : Int) ∧ ee ≤ 0 ∧ ¬ -23 < ee))) ∨ (E = 0 ∧ ((F : Int) == 0) = false ∧ ¬ 0 < ee) := by
    by_cases h0 : E = 0
    · exact .inr ⟨h0, by rw [beq_eq_false_iff_ne]; omega, by omega⟩
    · exact .inl ⟨by rw [beq_eq_false_iff_ne]; omega, by omega⟩
  clear h2 h3 h4 h5 hno hx hs he' hf hFl hEl
  go_enter Tryz.func19, Tryz.ntmps19
  go_wp2
  refine wp_scope_jumps 0 (JumpF w) (fun _ _ => 0) rfl ?first ?pass
  case pass =>
    rintro ⟨tmps, defers⟩ w' ⟨h1, h2, hb⟩
    change defers = [] at h1
    change tmps.size = 119 at h2
    subst h1
    go_wp2
    rw [jump_retF]
    exact bodyPost_ret (v := .tuple #[.int .u64 0, .bool false]) (by simp [results, Tryz.results19, go_sem, h2]) rfl ⟨by rw [HR.out.1, HR.out.2] <;> rfl, hb⟩
  case first =>
    go_wp2_with fail
    refine (wide_calls _).mono ?_
    rintro e w1 ⟨rfl, hb1⟩
    have hW1 := hb1
    have hG2 := Cls.new w1 47 [.int .i64 52, .int .i64 11, .int .i64 64]
    have hW2 := hW1.alloc hW1.size (.cells #[.int .i64 52, .int .i64 11, .int .i64 64] 47)
    go_wp2_with fail
    generalize w1.alloc (.cells #[.int .i64 52, .int .i64 11, .int .i64 64] 47) = V3 at *
    refine (hof _).mono ?_
    rintro e w4 ⟨rfl, hb4⟩
    have hW4 := hW2.trans (hb4.mono hW2.size)
    have hG4 := hG2.below hb4
    have hG5 := hG4.alloc (.cells #[.int .i64 23, .int .i64 8, .int .i64 32] 47)
    have hF5 := Cls.new w4 47 [.int .i64 23, .int .i64 8, .int .i64 32]
    have hW5 := hW4.alloc hW4.size (.cells #[.int .i64 23, .int .i64 8, .int .i64 32] 47)
    have G_0 := hG5.cell 0 rfl
    have G_1 := hG5.cell 1 rfl
    have G_2 := hG5.cell 2 rfl
    have F_0 := hF5.cell 0 rfl
    have F_1 := hF5.cell 1 rfl
    have F_2 := hF5.cell 2 rfl
    go_wp2_with fail
    generalize w4.alloc (.cells #[.int .i64 23, .int .i64 8, .int .i64 32] 47) = V6 at *
    clear G_0 G_1 G_2
    clear F_0 F_1 F_2
    refine (hparts _).mono ?_
    rintro e w7 ⟨rfl, hb7⟩
    have hW7 := hW5.trans (hb7.mono hW5.size)
    have hG7 := hG5.below hb7
    have hF7 := hF5.below hb7
    have G_0 := hG7.cell 0 rfl
    have G_1 := hG7.cell 1 rfl
    have G_2 := hG7.cell 2 rfl
    have F_0 := hF7.cell 0 rfl
    have F_1 := hF7.cell 1 rfl
    have F_2 := hF7.cell 2 rfl
    go_upto_region 10 with fail
    go_cut [14] (fun v wx => v = .int .i64 ee ∧ Cls wx (w1.heap.size) 47 [.int .i64 52, .int .i64 11, .int .i64 64] ∧ Cls wx (w4.heap.size) 47 [.int .i64 23, .int .i64 8, .int .i64 32] ∧ Below w.heap.size w wx)
    case first =>
      have hGG := hG7
      have hFF := hF7
      have hWW := hW7
      go_region_held3 (fun w' => w'.cell? ⟨w1.heap.size, 0, none⟩ = some (.int .i64 52) ∧ w'.cell? ⟨w1.heap.size, 1, none⟩ = some (.int .i64 11) ∧ w'.cell? ⟨w1.heap.size, 2, none⟩ = some (.int .i64 64) ∧ w'.cell? ⟨w4.heap.size, 0, none⟩ = some (.int .i64 23) ∧ w'.cell? ⟨w4.heap.size, 1, none⟩ = some (.int .i64 8) ∧ w'.cell? ⟨w4.heap.size, 2, none⟩ = some (.int .i64 32) ∧ Cls w' (w1.heap.size) 47 [.int .i64 52, .int .i64 11, .int .i64 64] ∧ Cls w' (w4.heap.size) 47 [.int .i64 23, .int .i64 8, .int .i64 32] ∧ Below w.heap.size w w')
        (first
          | (refine ⟨?_, ?_, ?_, ?_, ?_, ?_, ?_, ?_, ?_⟩ <;> first | assumption | exact cell_below (by assumption) hbX | exact Cls.below (by assumption) hbX | exact below_nextF (by assumption) hbX | exact Below.drew (by assumption))
          | go_keep
          | (go_split_ands
             refine ⟨?_, ?_, ?_, ?_, ?_, ?_, ?_, ?_, ?_⟩ <;> first | assumption | exact cell_below (by assumption) hbX | exact Cls.below (by assumption) hbX | exact below_nextF (by assumption) hbX | exact Below.drew (by assumption)))
        (first
          | (go_at_call_of 32 (Value.agg #[.int .i64 23, .int .i64 8, .int .i64 32]); refine (bias32_calls _).mono ?_; rintro e wa ⟨rfl, hbX⟩)
          | (go_at_call_of 32 (Value.agg #[.int .i64 52, .int .i64 11, .int .i64 64]); refine (bias64_calls _).mono ?_; rintro e wc ⟨rfl, hbX⟩))
      all_goals (
        go_wp2_with fail
        go_meet
        go_split_ands
        exact ⟨rfl, by assumption, by assumption, by assumption⟩)
    case rest =>
      clear G_0 G_1 G_2
      clear F_0 F_1 F_2
      obtain ⟨rfl, hG9, hF9, hW9⟩ := hcut
      have G_0 := hG9.cell 0 rfl
      have G_1 := hG9.cell 1 rfl
      have G_2 := hG9.cell 2 rfl
      have F_0 := hF9.cell 0 rfl
      have F_1 := hF9.cell 1 rfl
      have F_2 := hF9.cell 2 rfl
      rcases hz with ⟨z1, ⟨z2, z3⟩ | ⟨z2, z3, z4, z5⟩⟩ | ⟨rfl, z1, z2⟩
      all_goals (
        go_wp2_with (first | (go_at_call_of 43 (Value.int IntKind.i64 11); refine (ho11 _).mono ?_; rintro e v8 ⟨rfl, rfl⟩) | (go_at_call_of 43 (Value.int IntKind.i64 8); refine (hok _).mono ?_; rintro e v7 ⟨rfl, rfl⟩))
        go_step3
        go_wp2
        exact ⟨rfl, rfl, rfl, hW9⟩)

set_option maxRecDepth 100000 in
set_option maxHeartbeats 4000000 in
theorem narrow32_top_ok (x : Nat) (hx : x < 18446744073709551616) (h2 : x / 4503599627370496 % 2048 = 2047) (h9 : x % 4503599627370496 % 536870912 = 0) (w : World) :
    Calls Tryz.prog 19 #[.int .u64 x, .int .i64 32] w fun e w' => e = .returned (.tuple #[.int .u64 (narS x 32 : Nat), .bool (narB x 32)]) ∧ Below w.heap.size w w' := by
  have hof := fun W => fof_calls 32 W
  change ∀ W, Calls _ _ _ _ fun e w' => e = .returned (.tuple #[.agg #[.int .i64 23, .int .i64 8, .int .i64 32], .bool true]) ∧ _ at hof
  have heq := eqF32
  have hg := guardF
  have hparts := fun W => parts64_calls x hx W
  have hok := fun W => ones_calls 8 (by decide) W
  change ∀ W, Calls _ _ #[.int .i64 8] _ fun e w' => e = .returned (.int .u64 255) ∧ _ at hok
  have ho11 := fun W => ones_calls 11 (by decide) W
  change ∀ W, Calls _ _ #[.int .i64 11] _ fun e w' => e = .returned (.int .u64 2047) ∧ _ at ho11
  have hoL := fun W => ones_calls 29 (by decide) W
  change ∀ W, Calls _ _ #[.int .i64 29] _ fun e w' => e = .returned (.int .u64 536870911) ∧ _ at hoL
  have hs2 : x / 9223372036854775808 < 2 := by omega
  rw [show x / 9223372036854775808 % 2 = x / 9223372036854775808 from Nat.mod_eq_of_lt hs2] at hparts
  obtain ⟨s, hs⟩ : ∃ s, x / 9223372036854775808 = s := ⟨_, rfl⟩
  obtain ⟨E, he'⟩ : ∃ e, x / 4503599627370496 % 2048 = e := ⟨_, rfl⟩
  obtain ⟨F, hf⟩ : ∃ f, x % 4503599627370496 = f := ⟨_, rfl⟩
  have hFl : F < 4503599627370496 := by omega
  have hEl : E < 2048 := by omega
  rw [hs, he', hf] at hparts
  rw [hs] at hs2
  obtain ⟨y1, hy1⟩ : ∃ y : Int, (E : Int) - 1023 = y := ⟨_, rfl⟩
  obtain ⟨ee, hee⟩ : ∃ y : Int, y1 + 127 = y := ⟨_, rfl⟩
  have hyw : IntKind.i64.wrap y1 = y1 := IntWalk.i64_in _ (by omega)
  have hye : IntKind.i64.wrap ee = ee := IntWalk.i64_in _ (by omega)
  have hw3 : IntKind.i64.wrap 255 = 255 := by decide
  have hw4 : IntKind.i64.wrap 2047 = 2047 := by decide
  have hV : narV f32 x = narV f32 x := rfl
  conv at hV => rhs; unfold narV
  simp only [show x / C64 = s from hs, show x / A64 % 2048 = E from he', show x % A64 = F from hf] at hV
  rw [he'] at h2
  rw [if_pos h2] at hV
  rw [hf] at h9
  have t1 : ((E : Int) == 2047) = true := by rw [beq_iff_eq]; omega
  change narV f32 x = (if F % 536870912 = 0 then some (s * 2147483648 + 255 * 8388608 + F / 536870912) else none) at hV
  rw [if_pos h9] at hV
  have hand := and_mask (x := F) (n := 29) (by omega) 536870911 (by decide) (by decide)
  change bits .and .u64 (F : Int) 536870911 = ((F % 536870912 : Nat) : Int) at hand
  obtain ⟨rm, hrm⟩ : ∃ r, F % 536870912 = r := ⟨_, rfl⟩
  rw [hrm] at hand h9
  have t9 : ((rm : Int) != 0) = false := by rw [h9]; rfl
  obtain ⟨q, hq⟩ : ∃ q, F / 536870912 = q := ⟨_, rfl⟩
  have hqi : (F : Int) / 536870912 = (q : Int) := by omega
  have hql : q < 8388608 := by omega
  have hj := fun W => joined32_calls s 255 q hs2 (by omega) hql W
  change ∀ W, Calls _ _ #[_, _, .int .i64 255, _] _ _ at hj
  obtain ⟨v, hv⟩ : ∃ v, s * 2147483648 + 255 * 8388608 + q = v := ⟨_, rfl⟩
  rw [hv] at hj
  have HR := hid (show narS x 32 = v ∧ narB x 32 = true by
    have e1 : narS x 32 = (narV f32 x).getD 0 := rfl
    have e2 : narB x 32 = (narV f32 x).isSome := rfl
    rw [e1, e2, hV, Option.getD_some, Option.isSome_some]
    exact ⟨by first | (rw [← hv, hq, he9]; done) | (rw [← hv, hq]; done) | (rw [← hv, h2.1, show q = 0 by rw [← hq, h2.2, Nat.zero_div], Nat.zero_mul, Nat.add_zero]; done) | omega, rfl⟩)
  clear hV hv hql hq hs2 hrm h9 h2 hx hs he' hf hFl hEl
  go_enter Tryz.func19, Tryz.ntmps19
  go_wp2
  refine wp_scope_jumps 0 (fun _ _ => False) (fun _ _ => 0) rfl ?first (fun _ _ h => h.elim)
  case first =>
    go_wp2_with fail
    refine (wide_calls _).mono ?_
    rintro e w1 ⟨rfl, hb1⟩
    have hW1 := hb1
    have hG2 := Cls.new w1 47 [.int .i64 52, .int .i64 11, .int .i64 64]
    have hW2 := hW1.alloc hW1.size (.cells #[.int .i64 52, .int .i64 11, .int .i64 64] 47)
    go_wp2_with fail
    generalize w1.alloc (.cells #[.int .i64 52, .int .i64 11, .int .i64 64] 47) = V3 at *
    refine (hof _).mono ?_
    rintro e w4 ⟨rfl, hb4⟩
    have hW4 := hW2.trans (hb4.mono hW2.size)
    have hG4 := hG2.below hb4
    have hG5 := hG4.alloc (.cells #[.int .i64 23, .int .i64 8, .int .i64 32] 47)
    have hF5 := Cls.new w4 47 [.int .i64 23, .int .i64 8, .int .i64 32]
    have hW5 := hW4.alloc hW4.size (.cells #[.int .i64 23, .int .i64 8, .int .i64 32] 47)
    have G_0 := hG5.cell 0 rfl
    have G_1 := hG5.cell 1 rfl
    have G_2 := hG5.cell 2 rfl
    have F_0 := hF5.cell 0 rfl
    have F_1 := hF5.cell 1 rfl
    have F_2 := hF5.cell 2 rfl
    go_wp2_with fail
    generalize w4.alloc (.cells #[.int .i64 23, .int .i64 8, .int .i64 32] 47) = V6 at *
    clear G_0 G_1 G_2
    clear F_0 F_1 F_2
    refine (hparts _).mono ?_
    rintro e w7 ⟨rfl, hb7⟩
    have hW7 := hW5.trans (hb7.mono hW5.size)
    have hG7 := hG5.below hb7
    have hF7 := hF5.below hb7
    have G_0 := hG7.cell 0 rfl
    have G_1 := hG7.cell 1 rfl
    have G_2 := hG7.cell 2 rfl
    have F_0 := hF7.cell 0 rfl
    have F_1 := hF7.cell 1 rfl
    have F_2 := hF7.cell 2 rfl
    go_upto_region 10 with fail
    go_cut [14] (fun v wx => v = .int .i64 ee ∧ Cls wx (w1.heap.size) 47 [.int .i64 52, .int .i64 11, .int .i64 64] ∧ Cls wx (w4.heap.size) 47 [.int .i64 23, .int .i64 8, .int .i64 32] ∧ Below w.heap.size w wx)
    case first =>
      have hGG := hG7
      have hFF := hF7
      have hWW := hW7
      go_region_held3 (fun w' => w'.cell? ⟨w1.heap.size, 0, none⟩ = some (.int .i64 52) ∧ w'.cell? ⟨w1.heap.size, 1, none⟩ = some (.int .i64 11) ∧ w'.cell? ⟨w1.heap.size, 2, none⟩ = some (.int .i64 64) ∧ w'.cell? ⟨w4.heap.size, 0, none⟩ = some (.int .i64 23) ∧ w'.cell? ⟨w4.heap.size, 1, none⟩ = some (.int .i64 8) ∧ w'.cell? ⟨w4.heap.size, 2, none⟩ = some (.int .i64 32) ∧ Cls w' (w1.heap.size) 47 [.int .i64 52, .int .i64 11, .int .i64 64] ∧ Cls w' (w4.heap.size) 47 [.int .i64 23, .int .i64 8, .int .i64 32] ∧ Below w.heap.size w w')
        (first
          | (refine ⟨?_, ?_, ?_, ?_, ?_, ?_, ?_, ?_, ?_⟩ <;> first | assumption | exact cell_below (by assumption) hbX | exact Cls.below (by assumption) hbX | exact below_nextF (by assumption) hbX | exact Below.drew (by assumption))
          | go_keep
          | (go_split_ands
             refine ⟨?_, ?_, ?_, ?_, ?_, ?_, ?_, ?_, ?_⟩ <;> first | assumption | exact cell_below (by assumption) hbX | exact Cls.below (by assumption) hbX | exact below_nextF (by assumption) hbX | exact Below.drew (by assumption)))
        (first
          | (go_at_call_of 32 (Value.agg #[.int .i64 23, .int .i64 8, .int .i64 32]); refine (bias32_calls _).mono ?_; rintro e wa ⟨rfl, hbX⟩)
          | (go_at_call_of 32 (Value.agg #[.int .i64 52, .int .i64 11, .int .i64 64]); refine (bias64_calls _).mono ?_; rintro e wc ⟨rfl, hbX⟩))
      all_goals (
        go_wp2_with fail
        go_meet
        go_split_ands
        exact ⟨rfl, by assumption, by assumption, by assumption⟩)
    case rest =>
      clear G_0 G_1 G_2
      clear F_0 F_1 F_2
      obtain ⟨rfl, hG9, hF9, hW9⟩ := hcut
      have G_0 := hG9.cell 0 rfl
      have G_1 := hG9.cell 1 rfl
      have G_2 := hG9.cell 2 rfl
      have F_0 := hF9.cell 0 rfl
      have F_1 := hF9.cell 1 rfl
      have F_2 := hF9.cell 2 rfl
      go_wp2_with (first | (go_at_call_of 43 (Value.int IntKind.i64 11); refine (ho11 _).mono ?_; rintro e v8 ⟨rfl, rfl⟩) | (go_at_call_of 43 (Value.int IntKind.i64 8); refine (hok _).mono ?_; rintro e v7 ⟨rfl, rfl⟩) | (go_at_call_of 43 (Value.int IntKind.i64 29); refine (hoL _).mono ?_; rintro e v6 ⟨rfl, rfl⟩))
      go_region_held3 (fun w' => w'.cell? ⟨w4.heap.size, 0, none⟩ = some (.int .i64 23) ∧ w'.cell? ⟨w4.heap.size, 1, none⟩ = some (.int .i64 8) ∧ w'.cell? ⟨w4.heap.size, 2, none⟩ = some (.int .i64 32) ∧ Below w.heap.size w w')
        (first
          | (refine ⟨?_, ?_, ?_, ?_⟩ <;> first | assumption | exact cell_below (by assumption) hbX | exact below_nextF (by assumption) hbX | exact Below.drew (by assumption))
          | go_keep
          | (go_split_ands
             refine ⟨?_, ?_, ?_, ?_⟩ <;> first | assumption | exact cell_below (by assumption) hbX | exact below_nextF (by assumption) hbX | exact Below.drew (by assumption)))
        (first
          | (go_at_call 42; refine (hj _).mono ?_; rintro e wr ⟨rfl, hbX⟩))
      all_goals (
        go_wp2
        rw [jump_retF]
        go_ret2
        go_split_ands
        exact ⟨by rw [HR.out.1, HR.out.2] <;> rfl, by assumption⟩)

set_option maxRecDepth 100000 in
set_option maxHeartbeats 4000000 in
theorem narrow32_top_no (x : Nat) (hx : x < 18446744073709551616) (h2 : x / 4503599627370496 % 2048 = 2047) (h9 : x % 4503599627370496 % 536870912 ≠ 0) (w : World) :
    Calls Tryz.prog 19 #[.int .u64 x, .int .i64 32] w fun e w' => e = .returned (.tuple #[.int .u64 (narS x 32 : Nat), .bool (narB x 32)]) ∧ Below w.heap.size w w' := by
  have hof := fun W => fof_calls 32 W
  change ∀ W, Calls _ _ _ _ fun e w' => e = .returned (.tuple #[.agg #[.int .i64 23, .int .i64 8, .int .i64 32], .bool true]) ∧ _ at hof
  have heq := eqF32
  have hg := guardF
  have hparts := fun W => parts64_calls x hx W
  have hok := fun W => ones_calls 8 (by decide) W
  change ∀ W, Calls _ _ #[.int .i64 8] _ fun e w' => e = .returned (.int .u64 255) ∧ _ at hok
  have ho11 := fun W => ones_calls 11 (by decide) W
  change ∀ W, Calls _ _ #[.int .i64 11] _ fun e w' => e = .returned (.int .u64 2047) ∧ _ at ho11
  have hoL := fun W => ones_calls 29 (by decide) W
  change ∀ W, Calls _ _ #[.int .i64 29] _ fun e w' => e = .returned (.int .u64 536870911) ∧ _ at hoL
  have hs2 : x / 9223372036854775808 < 2 := by omega
  rw [show x / 9223372036854775808 % 2 = x / 9223372036854775808 from Nat.mod_eq_of_lt hs2] at hparts
  obtain ⟨s, hs⟩ : ∃ s, x / 9223372036854775808 = s := ⟨_, rfl⟩
  obtain ⟨E, he'⟩ : ∃ e, x / 4503599627370496 % 2048 = e := ⟨_, rfl⟩
  obtain ⟨F, hf⟩ : ∃ f, x % 4503599627370496 = f := ⟨_, rfl⟩
  have hFl : F < 4503599627370496 := by omega
  have hEl : E < 2048 := by omega
  rw [hs, he', hf] at hparts
  rw [hs] at hs2
  obtain ⟨y1, hy1⟩ : ∃ y : Int, (E : Int) - 1023 = y := ⟨_, rfl⟩
  obtain ⟨ee, hee⟩ : ∃ y : Int, y1 + 127 = y := ⟨_, rfl⟩
  have hyw : IntKind.i64.wrap y1 = y1 := IntWalk.i64_in _ (by omega)
  have hye : IntKind.i64.wrap ee = ee := IntWalk.i64_in _ (by omega)
  have hw3 : IntKind.i64.wrap 255 = 255 := by decide
  have hw4 : IntKind.i64.wrap 2047 = 2047 := by decide
  have hV : narV f32 x = narV f32 x := rfl
  conv at hV => rhs; unfold narV
  simp only [show x / C64 = s from hs, show x / A64 % 2048 = E from he', show x % A64 = F from hf] at hV
  rw [he'] at h2
  rw [if_pos h2] at hV
  rw [hf] at h9
  have t1 : ((E : Int) == 2047) = true := by rw [beq_iff_eq]; omega
  change narV f32 x = (if F % 536870912 = 0 then some (s * 2147483648 + 255 * 8388608 + F / 536870912) else none) at hV
  rw [if_neg h9] at hV
  have hand := and_mask (x := F) (n := 29) (by omega) 536870911 (by decide) (by decide)
  change bits .and .u64 (F : Int) 536870911 = ((F % 536870912 : Nat) : Int) at hand
  obtain ⟨rm, hrm⟩ : ∃ r, F % 536870912 = r := ⟨_, rfl⟩
  rw [hrm] at hand h9
  have t9 : ((rm : Int) != 0) = true := by rw [bne_iff_ne]; omega
  have HR := hid (show narS x 32 = 0 ∧ narB x 32 = false by
    have e1 : narS x 32 = (narV f32 x).getD 0 := rfl
    have e2 : narB x 32 = (narV f32 x).isSome := rfl
    rw [e1, e2, hV]
    exact ⟨rfl, rfl⟩)
  clear hV hs2 hrm h9 h2 hx hs he' hf hFl hEl
  go_enter Tryz.func19, Tryz.ntmps19
  go_wp2
  refine wp_scope_jumps 0 (JumpF w) (fun _ _ => 0) rfl ?first ?pass
  case pass =>
    rintro ⟨tmps, defers⟩ w' ⟨h1, h2, hb⟩
    change defers = [] at h1
    change tmps.size = 119 at h2
    subst h1
    go_wp2
    rw [jump_retF]
    exact bodyPost_ret (v := .tuple #[.int .u64 0, .bool false]) (by simp [results, Tryz.results19, go_sem, h2]) rfl ⟨by rw [HR.out.1, HR.out.2] <;> rfl, hb⟩
  case first =>
    go_wp2_with fail
    refine (wide_calls _).mono ?_
    rintro e w1 ⟨rfl, hb1⟩
    have hW1 := hb1
    have hG2 := Cls.new w1 47 [.int .i64 52, .int .i64 11, .int .i64 64]
    have hW2 := hW1.alloc hW1.size (.cells #[.int .i64 52, .int .i64 11, .int .i64 64] 47)
    go_wp2_with fail
    generalize w1.alloc (.cells #[.int .i64 52, .int .i64 11, .int .i64 64] 47) = V3 at *
    refine (hof _).mono ?_
    rintro e w4 ⟨rfl, hb4⟩
    have hW4 := hW2.trans (hb4.mono hW2.size)
    have hG4 := hG2.below hb4
    have hG5 := hG4.alloc (.cells #[.int .i64 23, .int .i64 8, .int .i64 32] 47)
    have hF5 := Cls.new w4 47 [.int .i64 23, .int .i64 8, .int .i64 32]
    have hW5 := hW4.alloc hW4.size (.cells #[.int .i64 23, .int .i64 8, .int .i64 32] 47)
    have G_0 := hG5.cell 0 rfl
    have G_1 := hG5.cell 1 rfl
    have G_2 := hG5.cell 2 rfl
    have F_0 := hF5.cell 0 rfl
    have F_1 := hF5.cell 1 rfl
    have F_2 := hF5.cell 2 rfl
    go_wp2_with fail
    generalize w4.alloc (.cells #[.int .i64 23, .int .i64 8, .int .i64 32] 47) = V6 at *
    clear G_0 G_1 G_2
    clear F_0 F_1 F_2
    refine (hparts _).mono ?_
    rintro e w7 ⟨rfl, hb7⟩
    have hW7 := hW5.trans (hb7.mono hW5.size)
    have hG7 := hG5.below hb7
    have hF7 := hF5.below hb7
    have G_0 := hG7.cell 0 rfl
    have G_1 := hG7.cell 1 rfl
    have G_2 := hG7.cell 2 rfl
    have F_0 := hF7.cell 0 rfl
    have F_1 := hF7.cell 1 rfl
    have F_2 := hF7.cell 2 rfl
    go_upto_region 10 with fail
    go_cut [14] (fun v wx => v = .int .i64 ee ∧ Cls wx (w1.heap.size) 47 [.int .i64 52, .int .i64 11, .int .i64 64] ∧ Cls wx (w4.heap.size) 47 [.int .i64 23, .int .i64 8, .int .i64 32] ∧ Below w.heap.size w wx)
    case first =>
      have hGG := hG7
      have hFF := hF7
      have hWW := hW7
      go_region_held3 (fun w' => w'.cell? ⟨w1.heap.size, 0, none⟩ = some (.int .i64 52) ∧ w'.cell? ⟨w1.heap.size, 1, none⟩ = some (.int .i64 11) ∧ w'.cell? ⟨w1.heap.size, 2, none⟩ = some (.int .i64 64) ∧ w'.cell? ⟨w4.heap.size, 0, none⟩ = some (.int .i64 23) ∧ w'.cell? ⟨w4.heap.size, 1, none⟩ = some (.int .i64 8) ∧ w'.cell? ⟨w4.heap.size, 2, none⟩ = some (.int .i64 32) ∧ Cls w' (w1.heap.size) 47 [.int .i64 52, .int .i64 11, .int .i64 64] ∧ Cls w' (w4.heap.size) 47 [.int .i64 23, .int .i64 8, .int .i64 32] ∧ Below w.heap.size w w')
        (first
          | (refine ⟨?_, ?_, ?_, ?_, ?_, ?_, ?_, ?_, ?_⟩ <;> first | assumption | exact cell_below (by assumption) hbX | exact Cls.below (by assumption) hbX | exact below_nextF (by assumption) hbX | exact Below.drew (by assumption))
          | go_keep
          | (go_split_ands
             refine ⟨?_, ?_, ?_, ?_, ?_, ?_, ?_, ?_, ?_⟩ <;> first | assumption | exact cell_below (by assumption) hbX | exact Cls.below (by assumption) hbX | exact below_nextF (by assumption) hbX | exact Below.drew (by assumption)))
        (first
          | (go_at_call_of 32 (Value.agg #[.int .i64 23, .int .i64 8, .int .i64 32]); refine (bias32_calls _).mono ?_; rintro e wa ⟨rfl, hbX⟩)
          | (go_at_call_of 32 (Value.agg #[.int .i64 52, .int .i64 11, .int .i64 64]); refine (bias64_calls _).mono ?_; rintro e wc ⟨rfl, hbX⟩))
      all_goals (
        go_wp2_with fail
        go_meet
        go_split_ands
        exact ⟨rfl, by assumption, by assumption, by assumption⟩)
    case rest =>
      clear G_0 G_1 G_2
      clear F_0 F_1 F_2
      obtain ⟨rfl, hG9, hF9, hW9⟩ := hcut
      have G_0 := hG9.cell 0 rfl
      have G_1 := hG9.cell 1 rfl
      have G_2 := hG9.cell 2 rfl
      have F_0 := hF9.cell 0 rfl
      have F_1 := hF9.cell 1 rfl
      have F_2 := hF9.cell 2 rfl
      go_wp2_with (first | (go_at_call_of 43 (Value.int IntKind.i64 11); refine (ho11 _).mono ?_; rintro e v8 ⟨rfl, rfl⟩) | (go_at_call_of 43 (Value.int IntKind.i64 8); refine (hok _).mono ?_; rintro e v7 ⟨rfl, rfl⟩) | (go_at_call_of 43 (Value.int IntKind.i64 29); refine (hoL _).mono ?_; rintro e v6 ⟨rfl, rfl⟩))
      go_step3
      go_wp2
      exact ⟨rfl, rfl, rfl, hW9⟩

set_option maxRecDepth 100000 in
set_option maxHeartbeats 4000000 in
theorem narrow32_zero_ok (x : Nat) (hx : x < 18446744073709551616) (h2 : x / 4503599627370496 % 2048 = 0 ∧ x % 4503599627370496 = 0)  (w : World) :
    Calls Tryz.prog 19 #[.int .u64 x, .int .i64 32] w fun e w' => e = .returned (.tuple #[.int .u64 (narS x 32 : Nat), .bool (narB x 32)]) ∧ Below w.heap.size w w' := by
  have hof := fun W => fof_calls 32 W
  change ∀ W, Calls _ _ _ _ fun e w' => e = .returned (.tuple #[.agg #[.int .i64 23, .int .i64 8, .int .i64 32], .bool true]) ∧ _ at hof
  have heq := eqF32
  have hg := guardF
  have hparts := fun W => parts64_calls x hx W
  have hok := fun W => ones_calls 8 (by decide) W
  change ∀ W, Calls _ _ #[.int .i64 8] _ fun e w' => e = .returned (.int .u64 255) ∧ _ at hok
  have ho11 := fun W => ones_calls 11 (by decide) W
  change ∀ W, Calls _ _ #[.int .i64 11] _ fun e w' => e = .returned (.int .u64 2047) ∧ _ at ho11
  have hoL := fun W => ones_calls 29 (by decide) W
  change ∀ W, Calls _ _ #[.int .i64 29] _ fun e w' => e = .returned (.int .u64 536870911) ∧ _ at hoL
  have hs2 : x / 9223372036854775808 < 2 := by omega
  rw [show x / 9223372036854775808 % 2 = x / 9223372036854775808 from Nat.mod_eq_of_lt hs2] at hparts
  obtain ⟨s, hs⟩ : ∃ s, x / 9223372036854775808 = s := ⟨_, rfl⟩
  obtain ⟨E, he'⟩ : ∃ e, x / 4503599627370496 % 2048 = e := ⟨_, rfl⟩
  obtain ⟨F, hf⟩ : ∃ f, x % 4503599627370496 = f := ⟨_, rfl⟩
  have hFl : F < 4503599627370496 := by omega
  have hEl : E < 2048 := by omega
  rw [hs, he', hf] at hparts
  rw [hs] at hs2
  obtain ⟨y1, hy1⟩ : ∃ y : Int, (E : Int) - 1023 = y := ⟨_, rfl⟩
  obtain ⟨ee, hee⟩ : ∃ y : Int, y1 + 127 = y := ⟨_, rfl⟩
  have hyw : IntKind.i64.wrap y1 = y1 := IntWalk.i64_in _ (by omega)
  have hye : IntKind.i64.wrap ee = ee := IntWalk.i64_in _ (by omega)
  have hw3 : IntKind.i64.wrap 255 = 255 := by decide
  have hw4 : IntKind.i64.wrap 2047 = 2047 := by decide
  have hV : narV f32 x = narV f32 x := rfl
  conv at hV => rhs; unfold narV
  simp only [show x / C64 = s from hs, show x / A64 % 2048 = E from he', show x % A64 = F from hf] at hV
  rw [he'] at h2
  rw [hf] at h2
  rw [if_neg (by omega), if_pos h2] at hV
  have h9 : F % 536870912 = 0 := by omega
  have t0 : ((E : Int) == 2047) = false := by rw [beq_eq_false_iff_ne]; omega
  have t1 : ((E : Int) == 0) = true := by rw [beq_iff_eq]; omega
  have t2 : ((F : Int) == 0) = true := by rw [beq_iff_eq]; omega
  change narV f32 x = some (s * 2147483648) at hV
  have hand := and_mask (x := F) (n := 29) (by omega) 536870911 (by decide) (by decide)
  change bits .and .u64 (F : Int) 536870911 = ((F % 536870912 : Nat) : Int) at hand
  obtain ⟨rm, hrm⟩ : ∃ r, F % 536870912 = r := ⟨_, rfl⟩
  rw [hrm] at hand h9
  have t9 : ((rm : Int) != 0) = false := by rw [h9]; rfl
  obtain ⟨q, hq⟩ : ∃ q, F / 536870912 = q := ⟨_, rfl⟩
  have hqi : (F : Int) / 536870912 = (q : Int) := by omega
  have hql : q < 8388608 := by omega
  have hj := fun W => joined32_calls s E q hs2 (by omega) hql W
  obtain ⟨v, hv⟩ : ∃ v, s * 2147483648 + E * 8388608 + q = v := ⟨_, rfl⟩
  rw [hv] at hj
  have HR := hid (show narS x 32 = v ∧ narB x 32 = true by
    have e1 : narS x 32 = (narV f32 x).getD 0 := rfl
    have e2 : narB x 32 = (narV f32 x).isSome := rfl
    rw [e1, e2, hV, Option.getD_some, Option.isSome_some]
    exact ⟨by first | (rw [← hv, hq, he9]; done) | (rw [← hv, hq]; done) | (rw [← hv, h2.1, show q = 0 by rw [← hq, h2.2, Nat.zero_div], Nat.zero_mul, Nat.add_zero]; done) | omega, rfl⟩)
  clear hV hv hql hq hs2 hrm h9 h2 hx hs he' hf hFl hEl
  go_enter Tryz.func19, Tryz.ntmps19
  go_wp2
  refine wp_scope_jumps 0 (fun _ _ => False) (fun _ _ => 0) rfl ?first (fun _ _ h => h.elim)
  case first =>
    go_wp2_with fail
    refine (wide_calls _).mono ?_
    rintro e w1 ⟨rfl, hb1⟩
    have hW1 := hb1
    have hG2 := Cls.new w1 47 [.int .i64 52, .int .i64 11, .int .i64 64]
    have hW2 := hW1.alloc hW1.size (.cells #[.int .i64 52, .int .i64 11, .int .i64 64] 47)
    go_wp2_with fail
    generalize w1.alloc (.cells #[.int .i64 52, .int .i64 11, .int .i64 64] 47) = V3 at *
    refine (hof _).mono ?_
    rintro e w4 ⟨rfl, hb4⟩
    have hW4 := hW2.trans (hb4.mono hW2.size)
    have hG4 := hG2.below hb4
    have hG5 := hG4.alloc (.cells #[.int .i64 23, .int .i64 8, .int .i64 32] 47)
    have hF5 := Cls.new w4 47 [.int .i64 23, .int .i64 8, .int .i64 32]
    have hW5 := hW4.alloc hW4.size (.cells #[.int .i64 23, .int .i64 8, .int .i64 32] 47)
    have G_0 := hG5.cell 0 rfl
    have G_1 := hG5.cell 1 rfl
    have G_2 := hG5.cell 2 rfl
    have F_0 := hF5.cell 0 rfl
    have F_1 := hF5.cell 1 rfl
    have F_2 := hF5.cell 2 rfl
    go_wp2_with fail
    generalize w4.alloc (.cells #[.int .i64 23, .int .i64 8, .int .i64 32] 47) = V6 at *
    clear G_0 G_1 G_2
    clear F_0 F_1 F_2
    refine (hparts _).mono ?_
    rintro e w7 ⟨rfl, hb7⟩
    have hW7 := hW5.trans (hb7.mono hW5.size)
    have hG7 := hG5.below hb7
    have hF7 := hF5.below hb7
    have G_0 := hG7.cell 0 rfl
    have G_1 := hG7.cell 1 rfl
    have G_2 := hG7.cell 2 rfl
    have F_0 := hF7.cell 0 rfl
    have F_1 := hF7.cell 1 rfl
    have F_2 := hF7.cell 2 rfl
    go_upto_region 10 with fail
    go_cut [14] (fun v wx => v = .int .i64 ee ∧ Cls wx (w1.heap.size) 47 [.int .i64 52, .int .i64 11, .int .i64 64] ∧ Cls wx (w4.heap.size) 47 [.int .i64 23, .int .i64 8, .int .i64 32] ∧ Below w.heap.size w wx)
    case first =>
      have hGG := hG7
      have hFF := hF7
      have hWW := hW7
      go_region_held3 (fun w' => w'.cell? ⟨w1.heap.size, 0, none⟩ = some (.int .i64 52) ∧ w'.cell? ⟨w1.heap.size, 1, none⟩ = some (.int .i64 11) ∧ w'.cell? ⟨w1.heap.size, 2, none⟩ = some (.int .i64 64) ∧ w'.cell? ⟨w4.heap.size, 0, none⟩ = some (.int .i64 23) ∧ w'.cell? ⟨w4.heap.size, 1, none⟩ = some (.int .i64 8) ∧ w'.cell? ⟨w4.heap.size, 2, none⟩ = some (.int .i64 32) ∧ Cls w' (w1.heap.size) 47 [.int .i64 52, .int .i64 11, .int .i64 64] ∧ Cls w' (w4.heap.size) 47 [.int .i64 23, .int .i64 8, .int .i64 32] ∧ Below w.heap.size w w')
        (first
          | (refine ⟨?_, ?_, ?_, ?_, ?_, ?_, ?_, ?_, ?_⟩ <;> first | assumption | exact cell_below (by assumption) hbX | exact Cls.below (by assumption) hbX | exact below_nextF (by assumption) hbX | exact Below.drew (by assumption))
          | go_keep
          | (go_split_ands
             refine ⟨?_, ?_, ?_, ?_, ?_, ?_, ?_, ?_, ?_⟩ <;> first | assumption | exact cell_below (by assumption) hbX | exact Cls.below (by assumption) hbX | exact below_nextF (by assumption) hbX | exact Below.drew (by assumption)))
        (first
          | (go_at_call_of 32 (Value.agg #[.int .i64 23, .int .i64 8, .int .i64 32]); refine (bias32_calls _).mono ?_; rintro e wa ⟨rfl, hbX⟩)
          | (go_at_call_of 32 (Value.agg #[.int .i64 52, .int .i64 11, .int .i64 64]); refine (bias64_calls _).mono ?_; rintro e wc ⟨rfl, hbX⟩))
      all_goals (
        go_wp2_with fail
        go_meet
        go_split_ands
        exact ⟨rfl, by assumption, by assumption, by assumption⟩)
    case rest =>
      clear G_0 G_1 G_2
      clear F_0 F_1 F_2
      obtain ⟨rfl, hG9, hF9, hW9⟩ := hcut
      have G_0 := hG9.cell 0 rfl
      have G_1 := hG9.cell 1 rfl
      have G_2 := hG9.cell 2 rfl
      have F_0 := hF9.cell 0 rfl
      have F_1 := hF9.cell 1 rfl
      have F_2 := hF9.cell 2 rfl
      go_wp2_with (first | (go_at_call_of 43 (Value.int IntKind.i64 11); refine (ho11 _).mono ?_; rintro e v8 ⟨rfl, rfl⟩) | (go_at_call_of 43 (Value.int IntKind.i64 8); refine (hok _).mono ?_; rintro e v7 ⟨rfl, rfl⟩) | (go_at_call_of 43 (Value.int IntKind.i64 29); refine (hoL _).mono ?_; rintro e v6 ⟨rfl, rfl⟩))
      go_region_held3 (fun w' => w'.cell? ⟨w4.heap.size, 0, none⟩ = some (.int .i64 23) ∧ w'.cell? ⟨w4.heap.size, 1, none⟩ = some (.int .i64 8) ∧ w'.cell? ⟨w4.heap.size, 2, none⟩ = some (.int .i64 32) ∧ Below w.heap.size w w')
        (first
          | (refine ⟨?_, ?_, ?_, ?_⟩ <;> first | assumption | exact cell_below (by assumption) hbX | exact below_nextF (by assumption) hbX | exact Below.drew (by assumption))
          | go_keep
          | (go_split_ands
             refine ⟨?_, ?_, ?_, ?_⟩ <;> first | assumption | exact cell_below (by assumption) hbX | exact below_nextF (by assumption) hbX | exact Below.drew (by assumption)))
        (first
          | (go_at_call 42; refine (hj _).mono ?_; rintro e wr ⟨rfl, hbX⟩))
      all_goals (
        go_wp2
        rw [jump_retF]
        go_ret2
        go_split_ands
        exact ⟨by rw [HR.out.1, HR.out.2] <;> rfl, by assumption⟩)

set_option maxRecDepth 100000 in
set_option maxHeartbeats 4000000 in
theorem narrow32_main_ok (x : Nat) (hx : x < 18446744073709551616) (h2 : x / 4503599627370496 % 2048 ≠ 2047) (h3 : 1023 < x / 4503599627370496 % 2048 + 127 ∧ x / 4503599627370496 % 2048 + 127 < 1023 + 256 - 1) (h9 : x % 4503599627370496 % 536870912 = 0) (w : World) :
    Calls Tryz.prog 19 #[.int .u64 x, .int .i64 32] w fun e w' => e = .returned (.tuple #[.int .u64 (narS x 32 : Nat), .bool (narB x 32)]) ∧ Below w.heap.size w w' := by
  have hof := fun W => fof_calls 32 W
  change ∀ W, Calls _ _ _ _ fun e w' => e = .returned (.tuple #[.agg #[.int .i64 23, .int .i64 8, .int .i64 32], .bool true]) ∧ _ at hof
  have heq := eqF32
  have hg := guardF
  have hparts := fun W => parts64_calls x hx W
  have hok := fun W => ones_calls 8 (by decide) W
  change ∀ W, Calls _ _ #[.int .i64 8] _ fun e w' => e = .returned (.int .u64 255) ∧ _ at hok
  have ho11 := fun W => ones_calls 11 (by decide) W
  change ∀ W, Calls _ _ #[.int .i64 11] _ fun e w' => e = .returned (.int .u64 2047) ∧ _ at ho11
  have hoL := fun W => ones_calls 29 (by decide) W
  change ∀ W, Calls _ _ #[.int .i64 29] _ fun e w' => e = .returned (.int .u64 536870911) ∧ _ at hoL
  have hs2 : x / 9223372036854775808 < 2 := by omega
  rw [show x / 9223372036854775808 % 2 = x / 9223372036854775808 from Nat.mod_eq_of_lt hs2] at hparts
  obtain ⟨s, hs⟩ : ∃ s, x / 9223372036854775808 = s := ⟨_, rfl⟩
  obtain ⟨E, he'⟩ : ∃ e, x / 4503599627370496 % 2048 = e := ⟨_, rfl⟩
  obtain ⟨F, hf⟩ : ∃ f, x % 4503599627370496 = f := ⟨_, rfl⟩
  have hFl : F < 4503599627370496 := by omega
  have hEl : E < 2048 := by omega
  rw [hs, he', hf] at hparts
  rw [hs] at hs2
  obtain ⟨y1, hy1⟩ : ∃ y : Int, (E : Int) - 1023 = y := ⟨_, rfl⟩
  obtain ⟨ee, hee⟩ : ∃ y : Int, y1 + 127 = y := ⟨_, rfl⟩
  have hyw : IntKind.i64.wrap y1 = y1 := IntWalk.i64_in _ (by omega)
  have hye : IntKind.i64.wrap ee = ee := IntWalk.i64_in _ (by omega)
  have hw3 : IntKind.i64.wrap 255 = 255 := by decide
  have hw4 : IntKind.i64.wrap 2047 = 2047 := by decide
  have hV : narV f32 x = narV f32 x := rfl
  conv at hV => rhs; unfold narV
  simp only [show x / C64 = s from hs, show x / A64 % 2048 = E from he', show x % A64 = F from hf] at hV
  rw [he'] at h2
  rw [he'] at h3
  rw [if_neg h2, if_neg (by omega), if_pos (show 1023 < E + f32.bias ∧ E + f32.bias < 1023 + f32.B - 1 from h3)] at hV
  rw [hf] at h9
  have t0 : ((E : Int) == 2047) = false := by rw [beq_eq_false_iff_ne]; omega
  have t1 : ((E : Int) == 0) = false := by rw [beq_eq_false_iff_ne]; omega
  obtain ⟨e9, rfl⟩ : ∃ n : Nat, ee = n := ⟨ee.toNat, by omega⟩
  have t2 : (0 : Int) < (e9 : Int) := by omega
  have t3 : (e9 : Int) < 255 := by omega
  have he9 : E + 127 - 1023 = e9 := by omega
  change narV f32 x = (if F % 536870912 = 0 then some (s * 2147483648 + (E + 127 - 1023) * 8388608 + F / 536870912) else none) at hV
  rw [if_pos h9] at hV
  have hand := and_mask (x := F) (n := 29) (by omega) 536870911 (by decide) (by decide)
  change bits .and .u64 (F : Int) 536870911 = ((F % 536870912 : Nat) : Int) at hand
  obtain ⟨rm, hrm⟩ : ∃ r, F % 536870912 = r := ⟨_, rfl⟩
  rw [hrm] at hand h9
  have t9 : ((rm : Int) != 0) = false := by rw [h9]; rfl
  obtain ⟨q, hq⟩ : ∃ q, F / 536870912 = q := ⟨_, rfl⟩
  have hqi : (F : Int) / 536870912 = (q : Int) := by omega
  have hql : q < 8388608 := by omega
  have hj := fun W => joined32_calls s e9 q hs2 (by omega) hql W
  obtain ⟨v, hv⟩ : ∃ v, s * 2147483648 + e9 * 8388608 + q = v := ⟨_, rfl⟩
  rw [hv] at hj
  have HR := hid (show narS x 32 = v ∧ narB x 32 = true by
    have e1 : narS x 32 = (narV f32 x).getD 0 := rfl
    have e2 : narB x 32 = (narV f32 x).isSome := rfl
    rw [e1, e2, hV, Option.getD_some, Option.isSome_some]
    exact ⟨by first | (rw [← hv, hq, he9]; done) | (rw [← hv, hq]; done) | (rw [← hv, h2.1, show q = 0 by rw [← hq, h2.2, Nat.zero_div], Nat.zero_mul, Nat.add_zero]; done) | omega, rfl⟩)
  clear hV hv hql hq hs2 hrm h9 h2 hx hs he' hf hFl hEl
  clear he9 h3
  go_enter Tryz.func19, Tryz.ntmps19
  go_wp2
  refine wp_scope_jumps 0 (fun _ _ => False) (fun _ _ => 0) rfl ?first (fun _ _ h => h.elim)
  case first =>
    go_wp2_with fail
    refine (wide_calls _).mono ?_
    rintro e w1 ⟨rfl, hb1⟩
    have hW1 := hb1
    have hG2 := Cls.new w1 47 [.int .i64 52, .int .i64 11, .int .i64 64]
    have hW2 := hW1.alloc hW1.size (.cells #[.int .i64 52, .int .i64 11, .int .i64 64] 47)
    go_wp2_with fail
    generalize w1.alloc (.cells #[.int .i64 52, .int .i64 11, .int .i64 64] 47) = V3 at *
    refine (hof _).mono ?_
    rintro e w4 ⟨rfl, hb4⟩
    have hW4 := hW2.trans (hb4.mono hW2.size)
    have hG4 := hG2.below hb4
    have hG5 := hG4.alloc (.cells #[.int .i64 23, .int .i64 8, .int .i64 32] 47)
    have hF5 := Cls.new w4 47 [.int .i64 23, .int .i64 8, .int .i64 32]
    have hW5 := hW4.alloc hW4.size (.cells #[.int .i64 23, .int .i64 8, .int .i64 32] 47)
    have G_0 := hG5.cell 0 rfl
    have G_1 := hG5.cell 1 rfl
    have G_2 := hG5.cell 2 rfl
    have F_0 := hF5.cell 0 rfl
    have F_1 := hF5.cell 1 rfl
    have F_2 := hF5.cell 2 rfl
    go_wp2_with fail
    generalize w4.alloc (.cells #[.int .i64 23, .int .i64 8, .int .i64 32] 47) = V6 at *
    clear G_0 G_1 G_2
    clear F_0 F_1 F_2
    refine (hparts _).mono ?_
    rintro e w7 ⟨rfl, hb7⟩
    have hW7 := hW5.trans (hb7.mono hW5.size)
    have hG7 := hG5.below hb7
    have hF7 := hF5.below hb7
    have G_0 := hG7.cell 0 rfl
    have G_1 := hG7.cell 1 rfl
    have G_2 := hG7.cell 2 rfl
    have F_0 := hF7.cell 0 rfl
    have F_1 := hF7.cell 1 rfl
    have F_2 := hF7.cell 2 rfl
    go_upto_region 10 with fail
    go_cut [14] (fun v wx => v = .int .i64 e9 ∧ Cls wx (w1.heap.size) 47 [.int .i64 52, .int .i64 11, .int .i64 64] ∧ Cls wx (w4.heap.size) 47 [.int .i64 23, .int .i64 8, .int .i64 32] ∧ Below w.heap.size w wx)
    case first =>
      have hGG := hG7
      have hFF := hF7
      have hWW := hW7
      go_region_held3 (fun w' => w'.cell? ⟨w1.heap.size, 0, none⟩ = some (.int .i64 52) ∧ w'.cell? ⟨w1.heap.size, 1, none⟩ = some (.int .i64 11) ∧ w'.cell? ⟨w1.heap.size, 2, none⟩ = some (.int .i64 64) ∧ w'.cell? ⟨w4.heap.size, 0, none⟩ = some (.int .i64 23) ∧ w'.cell? ⟨w4.heap.size, 1, none⟩ = some (.int .i64 8) ∧ w'.cell? ⟨w4.heap.size, 2, none⟩ = some (.int .i64 32) ∧ Cls w' (w1.heap.size) 47 [.int .i64 52, .int .i64 11, .int .i64 64] ∧ Cls w' (w4.heap.size) 47 [.int .i64 23, .int .i64 8, .int .i64 32] ∧ Below w.heap.size w w')
        (first
          | (refine ⟨?_, ?_, ?_, ?_, ?_, ?_, ?_, ?_, ?_⟩ <;> first | assumption | exact cell_below (by assumption) hbX | exact Cls.below (by assumption) hbX | exact below_nextF (by assumption) hbX | exact Below.drew (by assumption))
          | go_keep
          | (go_split_ands
             refine ⟨?_, ?_, ?_, ?_, ?_, ?_, ?_, ?_, ?_⟩ <;> first | assumption | exact cell_below (by assumption) hbX | exact Cls.below (by assumption) hbX | exact below_nextF (by assumption) hbX | exact Below.drew (by assumption)))
        (first
          | (go_at_call_of 32 (Value.agg #[.int .i64 23, .int .i64 8, .int .i64 32]); refine (bias32_calls _).mono ?_; rintro e wa ⟨rfl, hbX⟩)
          | (go_at_call_of 32 (Value.agg #[.int .i64 52, .int .i64 11, .int .i64 64]); refine (bias64_calls _).mono ?_; rintro e wc ⟨rfl, hbX⟩))
      all_goals (
        go_wp2_with fail
        go_meet
        go_split_ands
        exact ⟨rfl, by assumption, by assumption, by assumption⟩)
    case rest =>
      clear G_0 G_1 G_2
      clear F_0 F_1 F_2
      obtain ⟨rfl, hG9, hF9, hW9⟩ := hcut
      have G_0 := hG9.cell 0 rfl
      have G_1 := hG9.cell 1 rfl
      have G_2 := hG9.cell 2 rfl
      have F_0 := hF9.cell 0 rfl
      have F_1 := hF9.cell 1 rfl
      have F_2 := hF9.cell 2 rfl
      go_wp2_with (first | (go_at_call_of 43 (Value.int IntKind.i64 11); refine (ho11 _).mono ?_; rintro e v8 ⟨rfl, rfl⟩) | (go_at_call_of 43 (Value.int IntKind.i64 8); refine (hok _).mono ?_; rintro e v7 ⟨rfl, rfl⟩) | (go_at_call_of 43 (Value.int IntKind.i64 29); refine (hoL _).mono ?_; rintro e v6 ⟨rfl, rfl⟩))
      go_region_held3 (fun w' => w'.cell? ⟨w4.heap.size, 0, none⟩ = some (.int .i64 23) ∧ w'.cell? ⟨w4.heap.size, 1, none⟩ = some (.int .i64 8) ∧ w'.cell? ⟨w4.heap.size, 2, none⟩ = some (.int .i64 32) ∧ Below w.heap.size w w')
        (first
          | (refine ⟨?_, ?_, ?_, ?_⟩ <;> first | assumption | exact cell_below (by assumption) hbX | exact below_nextF (by assumption) hbX | exact Below.drew (by assumption))
          | go_keep
          | (go_split_ands
             refine ⟨?_, ?_, ?_, ?_⟩ <;> first | assumption | exact cell_below (by assumption) hbX | exact below_nextF (by assumption) hbX | exact Below.drew (by assumption)))
        (first
          | (go_at_call 42; refine (hj _).mono ?_; rintro e wr ⟨rfl, hbX⟩))
      all_goals (
        go_wp2
        rw [jump_retF]
        go_ret2
        go_split_ands
        exact ⟨by rw [HR.out.1, HR.out.2] <;> rfl, by assumption⟩)

set_option maxRecDepth 100000 in
set_option maxHeartbeats 4000000 in
theorem narrow32_main_no (x : Nat) (hx : x < 18446744073709551616) (h2 : x / 4503599627370496 % 2048 ≠ 2047) (h3 : 1023 < x / 4503599627370496 % 2048 + 127 ∧ x / 4503599627370496 % 2048 + 127 < 1023 + 256 - 1) (h9 : x % 4503599627370496 % 536870912 ≠ 0) (w : World) :
    Calls Tryz.prog 19 #[.int .u64 x, .int .i64 32] w fun e w' => e = .returned (.tuple #[.int .u64 (narS x 32 : Nat), .bool (narB x 32)]) ∧ Below w.heap.size w w' := by
  have hof := fun W => fof_calls 32 W
  change ∀ W, Calls _ _ _ _ fun e w' => e = .returned (.tuple #[.agg #[.int .i64 23, .int .i64 8, .int .i64 32], .bool true]) ∧ _ at hof
  have heq := eqF32
  have hg := guardF
  have hparts := fun W => parts64_calls x hx W
  have hok := fun W => ones_calls 8 (by decide) W
  change ∀ W, Calls _ _ #[.int .i64 8] _ fun e w' => e = .returned (.int .u64 255) ∧ _ at hok
  have ho11 := fun W => ones_calls 11 (by decide) W
  change ∀ W, Calls _ _ #[.int .i64 11] _ fun e w' => e = .returned (.int .u64 2047) ∧ _ at ho11
  have hoL := fun W => ones_calls 29 (by decide) W
  change ∀ W, Calls _ _ #[.int .i64 29] _ fun e w' => e = .returned (.int .u64 536870911) ∧ _ at hoL
  have hs2 : x / 9223372036854775808 < 2 := by omega
  rw [show x / 9223372036854775808 % 2 = x / 9223372036854775808 from Nat.mod_eq_of_lt hs2] at hparts
  obtain ⟨s, hs⟩ : ∃ s, x / 9223372036854775808 = s := ⟨_, rfl⟩
  obtain ⟨E, he'⟩ : ∃ e, x / 4503599627370496 % 2048 = e := ⟨_, rfl⟩
  obtain ⟨F, hf⟩ : ∃ f, x % 4503599627370496 = f := ⟨_, rfl⟩
  have hFl : F < 4503599627370496 := by omega
  have hEl : E < 2048 := by omega
  rw [hs, he', hf] at hparts
  rw [hs] at hs2
  obtain ⟨y1, hy1⟩ : ∃ y : Int, (E : Int) - 1023 = y := ⟨_, rfl⟩
  obtain ⟨ee, hee⟩ : ∃ y : Int, y1 + 127 = y := ⟨_, rfl⟩
  have hyw : IntKind.i64.wrap y1 = y1 := IntWalk.i64_in _ (by omega)
  have hye : IntKind.i64.wrap ee = ee := IntWalk.i64_in _ (by omega)
  have hw3 : IntKind.i64.wrap 255 = 255 := by decide
  have hw4 : IntKind.i64.wrap 2047 = 2047 := by decide
  have hV : narV f32 x = narV f32 x := rfl
  conv at hV => rhs; unfold narV
  simp only [show x / C64 = s from hs, show x / A64 % 2048 = E from he', show x % A64 = F from hf] at hV
  rw [he'] at h2
  rw [he'] at h3
  rw [if_neg h2, if_neg (by omega), if_pos (show 1023 < E + f32.bias ∧ E + f32.bias < 1023 + f32.B - 1 from h3)] at hV
  rw [hf] at h9
  have t0 : ((E : Int) == 2047) = false := by rw [beq_eq_false_iff_ne]; omega
  have t1 : ((E : Int) == 0) = false := by rw [beq_eq_false_iff_ne]; omega
  obtain ⟨e9, rfl⟩ : ∃ n : Nat, ee = n := ⟨ee.toNat, by omega⟩
  have t2 : (0 : Int) < (e9 : Int) := by omega
  have t3 : (e9 : Int) < 255 := by omega
  have he9 : E + 127 - 1023 = e9 := by omega
  change narV f32 x = (if F % 536870912 = 0 then some (s * 2147483648 + (E + 127 - 1023) * 8388608 + F / 536870912) else none) at hV
  rw [if_neg h9] at hV
  have hand := and_mask (x := F) (n := 29) (by omega) 536870911 (by decide) (by decide)
  change bits .and .u64 (F : Int) 536870911 = ((F % 536870912 : Nat) : Int) at hand
  obtain ⟨rm, hrm⟩ : ∃ r, F % 536870912 = r := ⟨_, rfl⟩
  rw [hrm] at hand h9
  have t9 : ((rm : Int) != 0) = true := by rw [bne_iff_ne]; omega
  have HR := hid (show narS x 32 = 0 ∧ narB x 32 = false by
    have e1 : narS x 32 = (narV f32 x).getD 0 := rfl
    have e2 : narB x 32 = (narV f32 x).isSome := rfl
    rw [e1, e2, hV]
    exact ⟨rfl, rfl⟩)
  clear hV hs2 hrm h9 h2 hx hs he' hf hFl hEl
  clear he9 h3
  go_enter Tryz.func19, Tryz.ntmps19
  go_wp2
  refine wp_scope_jumps 0 (JumpF w) (fun _ _ => 0) rfl ?first ?pass
  case pass =>
    rintro ⟨tmps, defers⟩ w' ⟨h1, h2, hb⟩
    change defers = [] at h1
    change tmps.size = 119 at h2
    subst h1
    go_wp2
    rw [jump_retF]
    exact bodyPost_ret (v := .tuple #[.int .u64 0, .bool false]) (by simp [results, Tryz.results19, go_sem, h2]) rfl ⟨by rw [HR.out.1, HR.out.2] <;> rfl, hb⟩
  case first =>
    go_wp2_with fail
    refine (wide_calls _).mono ?_
    rintro e w1 ⟨rfl, hb1⟩
    have hW1 := hb1
    have hG2 := Cls.new w1 47 [.int .i64 52, .int .i64 11, .int .i64 64]
    have hW2 := hW1.alloc hW1.size (.cells #[.int .i64 52, .int .i64 11, .int .i64 64] 47)
    go_wp2_with fail
    generalize w1.alloc (.cells #[.int .i64 52, .int .i64 11, .int .i64 64] 47) = V3 at *
    refine (hof _).mono ?_
    rintro e w4 ⟨rfl, hb4⟩
    have hW4 := hW2.trans (hb4.mono hW2.size)
    have hG4 := hG2.below hb4
    have hG5 := hG4.alloc (.cells #[.int .i64 23, .int .i64 8, .int .i64 32] 47)
    have hF5 := Cls.new w4 47 [.int .i64 23, .int .i64 8, .int .i64 32]
    have hW5 := hW4.alloc hW4.size (.cells #[.int .i64 23, .int .i64 8, .int .i64 32] 47)
    have G_0 := hG5.cell 0 rfl
    have G_1 := hG5.cell 1 rfl
    have G_2 := hG5.cell 2 rfl
    have F_0 := hF5.cell 0 rfl
    have F_1 := hF5.cell 1 rfl
    have F_2 := hF5.cell 2 rfl
    go_wp2_with fail
    generalize w4.alloc (.cells #[.int .i64 23, .int .i64 8, .int .i64 32] 47) = V6 at *
    clear G_0 G_1 G_2
    clear F_0 F_1 F_2
    refine (hparts _).mono ?_
    rintro e w7 ⟨rfl, hb7⟩
    have hW7 := hW5.trans (hb7.mono hW5.size)
    have hG7 := hG5.below hb7
    have hF7 := hF5.below hb7
    have G_0 := hG7.cell 0 rfl
    have G_1 := hG7.cell 1 rfl
    have G_2 := hG7.cell 2 rfl
    have F_0 := hF7.cell 0 rfl
    have F_1 := hF7.cell 1 rfl
    have F_2 := hF7.cell 2 rfl
    go_upto_region 10 with fail
    go_cut [14] (fun v wx => v = .int .i64 e9 ∧ Cls wx (w1.heap.size) 47 [.int .i64 52, .int .i64 11, .int .i64 64] ∧ Cls wx (w4.heap.size) 47 [.int .i64 23, .int .i64 8, .int .i64 32] ∧ Below w.heap.size w wx)
    case first =>
      have hGG := hG7
      have hFF := hF7
      have hWW := hW7
      go_region_held3 (fun w' => w'.cell? ⟨w1.heap.size, 0, none⟩ = some (.int .i64 52) ∧ w'.cell? ⟨w1.heap.size, 1, none⟩ = some (.int .i64 11) ∧ w'.cell? ⟨w1.heap.size, 2, none⟩ = some (.int .i64 64) ∧ w'.cell? ⟨w4.heap.size, 0, none⟩ = some (.int .i64 23) ∧ w'.cell? ⟨w4.heap.size, 1, none⟩ = some (.int .i64 8) ∧ w'.cell? ⟨w4.heap.size, 2, none⟩ = some (.int .i64 32) ∧ Cls w' (w1.heap.size) 47 [.int .i64 52, .int .i64 11, .int .i64 64] ∧ Cls w' (w4.heap.size) 47 [.int .i64 23, .int .i64 8, .int .i64 32] ∧ Below w.heap.size w w')
        (first
          | (refine ⟨?_, ?_, ?_, ?_, ?_, ?_, ?_, ?_, ?_⟩ <;> first | assumption | exact cell_below (by assumption) hbX | exact Cls.below (by assumption) hbX | exact below_nextF (by assumption) hbX | exact Below.drew (by assumption))
          | go_keep
          | (go_split_ands
             refine ⟨?_, ?_, ?_, ?_, ?_, ?_, ?_, ?_, ?_⟩ <;> first | assumption | exact cell_below (by assumption) hbX | exact Cls.below (by assumption) hbX | exact below_nextF (by assumption) hbX | exact Below.drew (by assumption)))
        (first
          | (go_at_call_of 32 (Value.agg #[.int .i64 23, .int .i64 8, .int .i64 32]); refine (bias32_calls _).mono ?_; rintro e wa ⟨rfl, hbX⟩)
          | (go_at_call_of 32 (Value.agg #[.int .i64 52, .int .i64 11, .int .i64 64]); refine (bias64_calls _).mono ?_; rintro e wc ⟨rfl, hbX⟩))
      all_goals (
        go_wp2_with fail
        go_meet
        go_split_ands
        exact ⟨rfl, by assumption, by assumption, by assumption⟩)
    case rest =>
      clear G_0 G_1 G_2
      clear F_0 F_1 F_2
      obtain ⟨rfl, hG9, hF9, hW9⟩ := hcut
      have G_0 := hG9.cell 0 rfl
      have G_1 := hG9.cell 1 rfl
      have G_2 := hG9.cell 2 rfl
      have F_0 := hF9.cell 0 rfl
      have F_1 := hF9.cell 1 rfl
      have F_2 := hF9.cell 2 rfl
      go_wp2_with (first | (go_at_call_of 43 (Value.int IntKind.i64 11); refine (ho11 _).mono ?_; rintro e v8 ⟨rfl, rfl⟩) | (go_at_call_of 43 (Value.int IntKind.i64 8); refine (hok _).mono ?_; rintro e v7 ⟨rfl, rfl⟩) | (go_at_call_of 43 (Value.int IntKind.i64 29); refine (hoL _).mono ?_; rintro e v6 ⟨rfl, rfl⟩))
      go_step3
      go_wp2
      exact ⟨rfl, rfl, rfl, hW9⟩
end Go.Proofs.YtfobaeoccpebeaaGreatDoor

/- Package float: Narrow to 32, small numbers: walked. -/
namespace Go.Proofs.YtfobaeoccpebeaaGreatDoor
open Go.RowKit Go.Shelf
attribute [local go_sem] Oper.semAt_some

set_option maxRecDepth 100000 in
set_option maxHeartbeats 4000000 in
theorem narrow32_sub_ok (x : Nat) (hx : x < 18446744073709551616) (h2 : x / 4503599627370496 % 2048 ≠ 2047) (h4 : 0 < x / 4503599627370496 % 2048 ∧ x / 4503599627370496 % 2048 + 127 ≤ 1023 ∧ 1023 < x / 4503599627370496 % 2048 + 127 + 23) (h9 : (x % 4503599627370496 + A64) % (536870912 * 2 ^ (1024 - 127 - x / 4503599627370496 % 2048)) = 0) (w : World) :
    Calls Tryz.prog 19 #[.int .u64 x, .int .i64 32] w fun e w' => e = .returned (.tuple #[.int .u64 (narS x 32 : Nat), .bool (narB x 32)]) ∧ Below w.heap.size w w' := by
  have hof := fun W => fof_calls 32 W
  change ∀ W, Calls _ _ _ _ fun e w' => e = .returned (.tuple #[.agg #[.int .i64 23, .int .i64 8, .int .i64 32], .bool true]) ∧ _ at hof
  have heq := eqF32
  have hg := guardF
  have hparts := fun W => parts64_calls x hx W
  have hok := fun W => ones_calls 8 (by decide) W
  change ∀ W, Calls _ _ #[.int .i64 8] _ fun e w' => e = .returned (.int .u64 255) ∧ _ at hok
  have ho11 := fun W => ones_calls 11 (by decide) W
  change ∀ W, Calls _ _ #[.int .i64 11] _ fun e w' => e = .returned (.int .u64 2047) ∧ _ at ho11
  have hoL := fun W => ones_calls 29 (by decide) W
  change ∀ W, Calls _ _ #[.int .i64 29] _ fun e w' => e = .returned (.int .u64 536870911) ∧ _ at hoL
  have hs2 : x / 9223372036854775808 < 2 := by omega
  rw [show x / 9223372036854775808 % 2 = x / 9223372036854775808 from Nat.mod_eq_of_lt hs2] at hparts
  obtain ⟨s, hs⟩ : ∃ s, x / 9223372036854775808 = s := ⟨_, rfl⟩
  obtain ⟨E, he'⟩ : ∃ e, x / 4503599627370496 % 2048 = e := ⟨_, rfl⟩
  obtain ⟨F, hf⟩ : ∃ f, x % 4503599627370496 = f := ⟨_, rfl⟩
  have hFl : F < 4503599627370496 := by omega
  have hEl : E < 2048 := by omega
  rw [hs, he', hf] at hparts
  rw [hs] at hs2
  obtain ⟨y1, hy1⟩ : ∃ y : Int, (E : Int) - 1023 = y := ⟨_, rfl⟩
  obtain ⟨ee, hee⟩ : ∃ y : Int, y1 + 127 = y := ⟨_, rfl⟩
  have hyw : IntKind.i64.wrap y1 = y1 := IntWalk.i64_in _ (by omega)
  have hye : IntKind.i64.wrap ee = ee := IntWalk.i64_in _ (by omega)
  have hw3 : IntKind.i64.wrap 255 = 255 := by decide
  have hw4 : IntKind.i64.wrap 2047 = 2047 := by decide
  have hV : narV f32 x = narV f32 x := rfl
  conv at hV => rhs; unfold narV
  simp only [show x / C64 = s from hs, show x / A64 % 2048 = E from he', show x % A64 = F from hf] at hV
  rw [he'] at h2 h4 h9
  rw [hf] at h9
  rw [if_neg h2, if_neg (by omega), if_neg (show ¬ (1023 < E + f32.bias ∧ E + f32.bias < 1023 + f32.B - 1) from fun h => by have : f32.bias = 127 := rfl; omega), if_pos (show 0 < E ∧ E + f32.bias ≤ 1023 ∧ 1023 < E + f32.bias + f32.p from h4)] at hV
  change narV f32 x = (if (F + A64) % (536870912 * 2 ^ (1024 - 127 - E)) = 0 then some (s * 2147483648 + (F + A64) / (536870912 * 2 ^ (1024 - 127 - E))) else none) at hV
  obtain ⟨lo, hlo⟩ : ∃ lo, 29 + (1024 - 127 - E) = lo := ⟨_, rfl⟩
  have hpow : 536870912 * 2 ^ (1024 - 127 - E) = 2 ^ lo := by rw [← hlo, Nat.pow_add]
  rw [hpow] at hV h9
  rw [if_pos h9] at hV
  obtain ⟨fr, hfr⟩ : ∃ v, F + 4503599627370496 = v := ⟨_, rfl⟩
  rw [show F + A64 = fr from hfr] at hV h9
  have hl63 : lo ≤ 63 := by omega
  have hoLo := fun W => ones_calls lo hl63 W
  have hand := and_mask (x := fr) (n := lo) (by omega) ((2 ^ lo - 1 : Nat) : Int) rfl hl63
  obtain ⟨mk', hmk'⟩ : ∃ v, 2 ^ lo - 1 = v := ⟨_, rfl⟩
  rw [hmk'] at hoLo hand
  obtain ⟨rm, hrm⟩ : ∃ r, fr % 2 ^ lo = r := ⟨_, rfl⟩
  rw [hrm] at hand h9
  have hor2 := or_52 hFl
  rw [hfr] at hor2
  have t0 : ((E : Int) == 2047) = false := by rw [beq_eq_false_iff_ne]; omega
  have t1 : ((E : Int) == 0) = false := by rw [beq_eq_false_iff_ne]; omega
  have t2 : (0 : Int) < (E : Int) := by omega
  have t3 : ee ≤ 0 := by omega
  have t4 : -23 < ee := by omega
  have t5 : ¬ 0 < ee := by omega
  have hlo1 : 30 - ee = (lo : Int) := by omega
  have hlow : IntKind.i64.wrap (lo : Int) = (lo : Int) := IntWalk.i64_in _ (by omega)
  have hlo64 : (lo : Int) ≤ 64 := by omega
  have hw52 : IntKind.u64.wrap 4503599627370496 = 4503599627370496 := by decide
  have hwsh : IntKind.i64.wrap 30 = 30 := by decide
  have hwp : IntKind.i64.wrap (-23) = -23 := by decide
  obtain ⟨PL, hPL⟩ : ∃ v : Nat, 2 ^ lo = v := ⟨_, rfl⟩
  have hPLi : (2 : Int) ^ lo = (PL : Int) := by rw [pow_cast, hPL]
  have hPL2 : 1073741824 ≤ PL := by rw [← hPL]; exact Nat.le_trans (by decide) (pow_le (show 30 ≤ lo by omega))
  have t9 : ((rm : Int) != 0) = false := by rw [h9]; rfl
  obtain ⟨q, hq⟩ : ∃ q, fr / PL = q := ⟨_, rfl⟩
  have hqi : (fr : Int) / (PL : Int) = (q : Int) := by rw [← hq]; exact (Int.natCast_ediv fr PL).symm
  have hql : q < 8388608 := by
    rw [← hq]
    refine (Nat.div_lt_iff_lt_mul (by omega)).2 (Nat.lt_of_lt_of_le (show fr < 8388608 * 1073741824 by omega) (Nat.mul_le_mul_left _ hPL2))
  have hj := fun W => joined32_calls s 0 q hs2 (by decide) hql W
  change ∀ W, Calls _ _ #[_, _, .int .i64 0, _] _ _ at hj
  simp only [Nat.zero_mul, Nat.add_zero] at hj
  obtain ⟨v, hv⟩ : ∃ v, s * 2147483648 + q = v := ⟨_, rfl⟩
  rw [hv] at hj
  have HR := hid (show narS x 32 = v ∧ narB x 32 = true by
    have e1 : narS x 32 = (narV f32 x).getD 0 := rfl
    have e2 : narB x 32 = (narV f32 x).isSome := rfl
    rw [e1, e2, hV, Option.getD_some, Option.isSome_some, hPL, hq]
    exact ⟨hv, rfl⟩)
  clear hV hv hql hq hs2 hrm h9 h2 hx hs he' hf hFl hEl hPL hPL2 hmk' hfr hlo hpow h4 hl63
  go_enter Tryz.func19, Tryz.ntmps19
  go_wp2
  refine wp_scope_jumps 0 (fun _ _ => False) (fun _ _ => 0) rfl ?first (fun _ _ h => h.elim)
  case first =>
    go_wp2_with fail
    refine (wide_calls _).mono ?_
    rintro e w1 ⟨rfl, hb1⟩
    have hW1 := hb1
    have hG2 := Cls.new w1 47 [.int .i64 52, .int .i64 11, .int .i64 64]
    have hW2 := hW1.alloc hW1.size (.cells #[.int .i64 52, .int .i64 11, .int .i64 64] 47)
    go_wp2_with fail
    generalize w1.alloc (.cells #[.int .i64 52, .int .i64 11, .int .i64 64] 47) = V3 at *
    refine (hof _).mono ?_
    rintro e w4 ⟨rfl, hb4⟩
    have hW4 := hW2.trans (hb4.mono hW2.size)
    have hG4 := hG2.below hb4
    have hG5 := hG4.alloc (.cells #[.int .i64 23, .int .i64 8, .int .i64 32] 47)
    have hF5 := Cls.new w4 47 [.int .i64 23, .int .i64 8, .int .i64 32]
    have hW5 := hW4.alloc hW4.size (.cells #[.int .i64 23, .int .i64 8, .int .i64 32] 47)
    have G_0 := hG5.cell 0 rfl
    have G_1 := hG5.cell 1 rfl
    have G_2 := hG5.cell 2 rfl
    have F_0 := hF5.cell 0 rfl
    have F_1 := hF5.cell 1 rfl
    have F_2 := hF5.cell 2 rfl
    go_wp2_with fail
    generalize w4.alloc (.cells #[.int .i64 23, .int .i64 8, .int .i64 32] 47) = V6 at *
    clear G_0 G_1 G_2
    clear F_0 F_1 F_2
    refine (hparts _).mono ?_
    rintro e w7 ⟨rfl, hb7⟩
    have hW7 := hW5.trans (hb7.mono hW5.size)
    have hG7 := hG5.below hb7
    have hF7 := hF5.below hb7
    have G_0 := hG7.cell 0 rfl
    have G_1 := hG7.cell 1 rfl
    have G_2 := hG7.cell 2 rfl
    have F_0 := hF7.cell 0 rfl
    have F_1 := hF7.cell 1 rfl
    have F_2 := hF7.cell 2 rfl
    go_upto_region 10 with fail
    go_cut [14] (fun v wx => v = .int .i64 ee ∧ Cls wx (w1.heap.size) 47 [.int .i64 52, .int .i64 11, .int .i64 64] ∧ Cls wx (w4.heap.size) 47 [.int .i64 23, .int .i64 8, .int .i64 32] ∧ Below w.heap.size w wx)
    case first =>
      have hGG := hG7
      have hFF := hF7
      have hWW := hW7
      go_region_held3 (fun w' => w'.cell? ⟨w1.heap.size, 0, none⟩ = some (.int .i64 52) ∧ w'.cell? ⟨w1.heap.size, 1, none⟩ = some (.int .i64 11) ∧ w'.cell? ⟨w1.heap.size, 2, none⟩ = some (.int .i64 64) ∧ w'.cell? ⟨w4.heap.size, 0, none⟩ = some (.int .i64 23) ∧ w'.cell? ⟨w4.heap.size, 1, none⟩ = some (.int .i64 8) ∧ w'.cell? ⟨w4.heap.size, 2, none⟩ = some (.int .i64 32) ∧ Cls w' (w1.heap.size) 47 [.int .i64 52, .int .i64 11, .int .i64 64] ∧ Cls w' (w4.heap.size) 47 [.int .i64 23, .int .i64 8, .int .i64 32] ∧ Below w.heap.size w w')
        (first
          | (refine ⟨?_, ?_, ?_, ?_, ?_, ?_, ?_, ?_, ?_⟩ <;> first | assumption | exact cell_below (by assumption) hbX | exact Cls.below (by assumption) hbX | exact below_nextF (by assumption) hbX | exact Below.drew (by assumption))
          | go_keep
          | (go_split_ands
             refine ⟨?_, ?_, ?_, ?_, ?_, ?_, ?_, ?_, ?_⟩ <;> first | assumption | exact cell_below (by assumption) hbX | exact Cls.below (by assumption) hbX | exact below_nextF (by assumption) hbX | exact Below.drew (by assumption)))
        (first
          | (go_at_call_of 32 (Value.agg #[.int .i64 23, .int .i64 8, .int .i64 32]); refine (bias32_calls _).mono ?_; rintro e wa ⟨rfl, hbX⟩)
          | (go_at_call_of 32 (Value.agg #[.int .i64 52, .int .i64 11, .int .i64 64]); refine (bias64_calls _).mono ?_; rintro e wc ⟨rfl, hbX⟩))
      all_goals (
        go_wp2_with fail
        go_meet
        go_split_ands
        exact ⟨rfl, by assumption, by assumption, by assumption⟩)
    case rest =>
      clear G_0 G_1 G_2
      clear F_0 F_1 F_2
      obtain ⟨rfl, hG9, hF9, hW9⟩ := hcut
      have G_0 := hG9.cell 0 rfl
      have G_1 := hG9.cell 1 rfl
      have G_2 := hG9.cell 2 rfl
      have F_0 := hF9.cell 0 rfl
      have F_1 := hF9.cell 1 rfl
      have F_2 := hF9.cell 2 rfl
      go_wp2_with (first | (go_at_call_of 43 (Value.int IntKind.i64 11); refine (ho11 _).mono ?_; rintro e v8 ⟨rfl, rfl⟩) | (go_at_call_of 43 (Value.int IntKind.i64 8); refine (hok _).mono ?_; rintro e v7 ⟨rfl, rfl⟩))
      go_quiet (fail)
      go_wp2_with fail
      have hFd : Cls (wc.drewN nq) (w4.heap.size) 47 [.int .i64 23, .int .i64 8, .int .i64 32] := hF9
      have hWd : Below w.heap.size w (wc.drewN nq) := belowN hW9 nq
      clear G_0 G_1 G_2
      clear F_0 F_1 F_2
      generalize wc.drewN nq = Zd at *
      have F_0 := hFd.cell 0 rfl
      have F_1 := hFd.cell 1 rfl
      have F_2 := hFd.cell 2 rfl
      refine (hoLo _).mono ?_
      rintro e v5 ⟨rfl, rfl⟩
      go_wp2_with fail
      go_region_held3 (fun w' => w'.cell? ⟨w4.heap.size, 0, none⟩ = some (.int .i64 23) ∧ w'.cell? ⟨w4.heap.size, 1, none⟩ = some (.int .i64 8) ∧ w'.cell? ⟨w4.heap.size, 2, none⟩ = some (.int .i64 32) ∧ Below w.heap.size w w')
        (first
          | (refine ⟨?_, ?_, ?_, ?_⟩ <;> first | assumption | exact cell_below (by assumption) hbX | exact below_nextF (by assumption) hbX | exact Below.drew (by assumption))
          | go_keep
          | (go_split_ands
             refine ⟨?_, ?_, ?_, ?_⟩ <;> first | assumption | exact cell_below (by assumption) hbX | exact below_nextF (by assumption) hbX | exact Below.drew (by assumption)))
        (first
          | (go_at_call 42; refine (hj _).mono ?_; rintro e wr ⟨rfl, hbX⟩))
      all_goals (
        go_wp2
        rw [jump_retF]
        go_ret2
        go_split_ands
        exact ⟨by rw [HR.out.1, HR.out.2] <;> rfl, by assumption⟩)

set_option maxRecDepth 100000 in
set_option maxHeartbeats 4000000 in
theorem narrow32_sub_no (x : Nat) (hx : x < 18446744073709551616) (h2 : x / 4503599627370496 % 2048 ≠ 2047) (h4 : 0 < x / 4503599627370496 % 2048 ∧ x / 4503599627370496 % 2048 + 127 ≤ 1023 ∧ 1023 < x / 4503599627370496 % 2048 + 127 + 23) (h9 : (x % 4503599627370496 + A64) % (536870912 * 2 ^ (1024 - 127 - x / 4503599627370496 % 2048)) ≠ 0) (w : World) :
    Calls Tryz.prog 19 #[.int .u64 x, .int .i64 32] w fun e w' => e = .returned (.tuple #[.int .u64 (narS x 32 : Nat), .bool (narB x 32)]) ∧ Below w.heap.size w w' := by
  have hof := fun W => fof_calls 32 W
  change ∀ W, Calls _ _ _ _ fun e w' => e = .returned (.tuple #[.agg #[.int .i64 23, .int .i64 8, .int .i64 32], .bool true]) ∧ _ at hof
  have heq := eqF32
  have hg := guardF
  have hparts := fun W => parts64_calls x hx W
  have hok := fun W => ones_calls 8 (by decide) W
  change ∀ W, Calls _ _ #[.int .i64 8] _ fun e w' => e = .returned (.int .u64 255) ∧ _ at hok
  have ho11 := fun W => ones_calls 11 (by decide) W
  change ∀ W, Calls _ _ #[.int .i64 11] _ fun e w' => e = .returned (.int .u64 2047) ∧ _ at ho11
  have hoL := fun W => ones_calls 29 (by decide) W
  change ∀ W, Calls _ _ #[.int .i64 29] _ fun e w' => e = .returned (.int .u64 536870911) ∧ _ at hoL
  have hs2 : x / 9223372036854775808 < 2 := by omega
  rw [show x / 9223372036854775808 % 2 = x / 9223372036854775808 from Nat.mod_eq_of_lt hs2] at hparts
  obtain ⟨s, hs⟩ : ∃ s, x / 9223372036854775808 = s := ⟨_, rfl⟩
  obtain ⟨E, he'⟩ : ∃ e, x / 4503599627370496 % 2048 = e := ⟨_, rfl⟩
  obtain ⟨F, hf⟩ : ∃ f, x % 4503599627370496 = f := ⟨_, rfl⟩
  have hFl : F < 4503599627370496 := by omega
  have hEl : E < 2048 := by omega
  rw [hs, he', hf] at hparts
  rw [hs] at hs2
  obtain ⟨y1, hy1⟩ : ∃ y : Int, (E : Int) - 1023 = y := ⟨_, rfl⟩
  obtain ⟨ee, hee⟩ : ∃ y : Int, y1 + 127 = y := ⟨_, rfl⟩
  have hyw : IntKind.i64.wrap y1 = y1 := IntWalk.i64_in _ (by omega)
  have hye : IntKind.i64.wrap ee = ee := IntWalk.i64_in _ (by omega)
  have hw3 : IntKind.i64.wrap 255 = 255 := by decide
  have hw4 : IntKind.i64.wrap 2047 = 2047 := by decide
  have hV : narV f32 x = narV f32 x := rfl
  conv at hV => rhs; unfold narV
  simp only [show x / C64 = s from hs, show x / A64 % 2048 = E from he', show x % A64 = F from hf] at hV
  rw [he'] at h2 h4 h9
  rw [hf] at h9
  rw [if_neg h2, if_neg (by omega), if_neg (show ¬ (1023 < E + f32.bias ∧ E + f32.bias < 1023 + f32.B - 1) from fun h => by have : f32.bias = 127 := rfl; omega), if_pos (show 0 < E ∧ E + f32.bias ≤ 1023 ∧ 1023 < E + f32.bias + f32.p from h4)] at hV
  change narV f32 x = (if (F + A64) % (536870912 * 2 ^ (1024 - 127 - E)) = 0 then some (s * 2147483648 + (F + A64) / (536870912 * 2 ^ (1024 - 127 - E))) else none) at hV
  obtain ⟨lo, hlo⟩ : ∃ lo, 29 + (1024 - 127 - E) = lo := ⟨_, rfl⟩
  have hpow : 536870912 * 2 ^ (1024 - 127 - E) = 2 ^ lo := by rw [← hlo, Nat.pow_add]
  rw [hpow] at hV h9
  rw [if_neg h9] at hV
  obtain ⟨fr, hfr⟩ : ∃ v, F + 4503599627370496 = v := ⟨_, rfl⟩
  rw [show F + A64 = fr from hfr] at h9
  have hl63 : lo ≤ 63 := by omega
  have hoLo := fun W => ones_calls lo hl63 W
  have hand := and_mask (x := fr) (n := lo) (by omega) ((2 ^ lo - 1 : Nat) : Int) rfl hl63
  obtain ⟨mk', hmk'⟩ : ∃ v, 2 ^ lo - 1 = v := ⟨_, rfl⟩
  rw [hmk'] at hoLo hand
  obtain ⟨rm, hrm⟩ : ∃ r, fr % 2 ^ lo = r := ⟨_, rfl⟩
  rw [hrm] at hand h9
  have hor2 := or_52 hFl
  rw [hfr] at hor2
  have t0 : ((E : Int) == 2047) = false := by rw [beq_eq_false_iff_ne]; omega
  have t1 : ((E : Int) == 0) = false := by rw [beq_eq_false_iff_ne]; omega
  have t2 : (0 : Int) < (E : Int) := by omega
  have t3 : ee ≤ 0 := by omega
  have t4 : -23 < ee := by omega
  have t5 : ¬ 0 < ee := by omega
  have hlo1 : 30 - ee = (lo : Int) := by omega
  have hlow : IntKind.i64.wrap (lo : Int) = (lo : Int) := IntWalk.i64_in _ (by omega)
  have hlo64 : (lo : Int) ≤ 64 := by omega
  have hw52 : IntKind.u64.wrap 4503599627370496 = 4503599627370496 := by decide
  have hwsh : IntKind.i64.wrap 30 = 30 := by decide
  have hwp : IntKind.i64.wrap (-23) = -23 := by decide
  obtain ⟨PL, hPL⟩ : ∃ v : Nat, 2 ^ lo = v := ⟨_, rfl⟩
  have hPLi : (2 : Int) ^ lo = (PL : Int) := by rw [pow_cast, hPL]
  have hPL2 : 1073741824 ≤ PL := by rw [← hPL]; exact Nat.le_trans (by decide) (pow_le (show 30 ≤ lo by omega))
  have t9 : ((rm : Int) != 0) = true := by rw [bne_iff_ne]; omega
  have HR := hid (show narS x 32 = 0 ∧ narB x 32 = false by
    have e1 : narS x 32 = (narV f32 x).getD 0 := rfl
    have e2 : narB x 32 = (narV f32 x).isSome := rfl
    rw [e1, e2, hV]
    exact ⟨rfl, rfl⟩)
  clear hV hs2 hrm h9 h2 hx hs he' hf hFl hEl hPL hPL2 hmk' hfr hlo hpow h4 hl63
  go_enter Tryz.func19, Tryz.ntmps19
  go_wp2
  refine wp_scope_jumps 0 (JumpF w) (fun _ _ => 0) rfl ?first ?pass
  case pass =>
    rintro ⟨tmps, defers⟩ w' ⟨h1, h2, hb⟩
    change defers = [] at h1
    change tmps.size = 119 at h2
    subst h1
    go_wp2
    rw [jump_retF]
    exact bodyPost_ret (v := .tuple #[.int .u64 0, .bool false]) (by simp [results, Tryz.results19, go_sem, h2]) rfl ⟨by rw [HR.out.1, HR.out.2] <;> rfl, hb⟩
  case first =>
    go_wp2_with fail
    refine (wide_calls _).mono ?_
    rintro e w1 ⟨rfl, hb1⟩
    have hW1 := hb1
    have hG2 := Cls.new w1 47 [.int .i64 52, .int .i64 11, .int .i64 64]
    have hW2 := hW1.alloc hW1.size (.cells #[.int .i64 52, .int .i64 11, .int .i64 64] 47)
    go_wp2_with fail
    generalize w1.alloc (.cells #[.int .i64 52, .int .i64 11, .int .i64 64] 47) = V3 at *
    refine (hof _).mono ?_
    rintro e w4 ⟨rfl, hb4⟩
    have hW4 := hW2.trans (hb4.mono hW2.size)
    have hG4 := hG2.below hb4
    have hG5 := hG4.alloc (.cells #[.int .i64 23, .int .i64 8, .int .i64 32] 47)
    have hF5 := Cls.new w4 47 [.int .i64 23, .int .i64 8, .int .i64 32]
    have hW5 := hW4.alloc hW4.size (.cells #[.int .i64 23, .int .i64 8, .int .i64 32] 47)
    have G_0 := hG5.cell 0 rfl
    have G_1 := hG5.cell 1 rfl
    have G_2 := hG5.cell 2 rfl
    have F_0 := hF5.cell 0 rfl
    have F_1 := hF5.cell 1 rfl
    have F_2 := hF5.cell 2 rfl
    go_wp2_with fail
    generalize w4.alloc (.cells #[.int .i64 23, .int .i64 8, .int .i64 32] 47) = V6 at *
    clear G_0 G_1 G_2
    clear F_0 F_1 F_2
    refine (hparts _).mono ?_
    rintro e w7 ⟨rfl, hb7⟩
    have hW7 := hW5.trans (hb7.mono hW5.size)
    have hG7 := hG5.below hb7
    have hF7 := hF5.below hb7
    have G_0 := hG7.cell 0 rfl
    have G_1 := hG7.cell 1 rfl
    have G_2 := hG7.cell 2 rfl
    have F_0 := hF7.cell 0 rfl
    have F_1 := hF7.cell 1 rfl
    have F_2 := hF7.cell 2 rfl
    go_upto_region 10 with fail
    go_cut [14] (fun v wx => v = .int .i64 ee ∧ Cls wx (w1.heap.size) 47 [.int .i64 52, .int .i64 11, .int .i64 64] ∧ Cls wx (w4.heap.size) 47 [.int .i64 23, .int .i64 8, .int .i64 32] ∧ Below w.heap.size w wx)
    case first =>
      have hGG := hG7
      have hFF := hF7
      have hWW := hW7
      go_region_held3 (fun w' => w'.cell? ⟨w1.heap.size, 0, none⟩ = some (.int .i64 52) ∧ w'.cell? ⟨w1.heap.size, 1, none⟩ = some (.int .i64 11) ∧ w'.cell? ⟨w1.heap.size, 2, none⟩ = some (.int .i64 64) ∧ w'.cell? ⟨w4.heap.size, 0, none⟩ = some (.int .i64 23) ∧ w'.cell? ⟨w4.heap.size, 1, none⟩ = some (.int .i64 8) ∧ w'.cell? ⟨w4.heap.size, 2, none⟩ = some (.int .i64 32) ∧ Cls w' (w1.heap.size) 47 [.int .i64 52, .int .i64 11, .int .i64 64] ∧ Cls w' (w4.heap.size) 47 [.int .i64 23, .int .i64 8, .int .i64 32] ∧ Below w.heap.size w w')
        (first
          | (refine ⟨?_, ?_, ?_, ?_, ?_, ?_, ?_, ?_, ?_⟩ <;> first | assumption | exact cell_below (by assumption) hbX | exact Cls.below (by assumption) hbX | exact below_nextF (by assumption) hbX | exact Below.drew (by assumption))
          | go_keep
          | (go_split_ands
             refine ⟨?_, ?_, ?_, ?_, ?_, ?_, ?_, ?_, ?_⟩ <;> first | assumption | exact cell_below (by assumption) hbX | exact Cls.below (by assumption) hbX | exact below_nextF (by assumption) hbX | exact Below.drew (by assumption)))
        (first
          | (go_at_call_of 32 (Value.agg #[.int .i64 23, .int .i64 8, .int .i64 32]); refine (bias32_calls _).mono ?_; rintro e wa ⟨rfl, hbX⟩)
          | (go_at_call_of 32 (Value.agg #[.int .i64 52, .int .i64 11, .int .i64 64]); refine (bias64_calls _).mono ?_; rintro e wc ⟨rfl, hbX⟩))
      all_goals (
        go_wp2_with fail
        go_meet
        go_split_ands
        exact ⟨rfl, by assumption, by assumption, by assumption⟩)
    case rest =>
      clear G_0 G_1 G_2
      clear F_0 F_1 F_2
      obtain ⟨rfl, hG9, hF9, hW9⟩ := hcut
      have G_0 := hG9.cell 0 rfl
      have G_1 := hG9.cell 1 rfl
      have G_2 := hG9.cell 2 rfl
      have F_0 := hF9.cell 0 rfl
      have F_1 := hF9.cell 1 rfl
      have F_2 := hF9.cell 2 rfl
      go_wp2_with (first | (go_at_call_of 43 (Value.int IntKind.i64 11); refine (ho11 _).mono ?_; rintro e v8 ⟨rfl, rfl⟩) | (go_at_call_of 43 (Value.int IntKind.i64 8); refine (hok _).mono ?_; rintro e v7 ⟨rfl, rfl⟩))
      go_quiet (fail)
      go_wp2_with fail
      have hFd : Cls (wc.drewN nq) (w4.heap.size) 47 [.int .i64 23, .int .i64 8, .int .i64 32] := hF9
      have hWd : Below w.heap.size w (wc.drewN nq) := belowN hW9 nq
      clear G_0 G_1 G_2
      clear F_0 F_1 F_2
      generalize wc.drewN nq = Zd at *
      have F_0 := hFd.cell 0 rfl
      have F_1 := hFd.cell 1 rfl
      have F_2 := hFd.cell 2 rfl
      refine (hoLo _).mono ?_
      rintro e v5 ⟨rfl, rfl⟩
      go_wp2_with fail
      go_step3
      go_wp2
      exact ⟨rfl, rfl, rfl, hWd⟩
end Go.Proofs.YtfobaeoccpebeaaGreatDoor

