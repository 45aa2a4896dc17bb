/- PE: FlF FlG FlI FlJ FlK FwA. -/
import Derived.Test.YtpjlepkdiaohiaaGreatDoorPD
import Derived.WalkMore
import Derived.ScopeJumps
import Derived.Deep.DeepCutAuto
import Derived.Laws.BitsAllLaws
/- Package float: Narrow: walked. -/
namespace Go.Proofs.YtpjlepkdiaohiaaGreatDoor
open Go.RowKit Go.Shelf
attribute [local go_sem] Oper.semAt_some

theorem jump_retF {l : Nat} {J : Act → World → Prop} {Q : Exit → Act → World → Prop} {a : Act} {w : World} : Exit.jump l J Q .ret a w = Q .ret a w := rfl
/-- what is known where Narrow gives up. -/
def JumpF (w : World) (a : Act) (w' : World) : Prop := a.defers = [] ∧ a.tmps.size = 119 ∧ Below w.heap.size w w'

set_option maxRecDepth 100000 in
set_option maxHeartbeats 4000000 in
theorem narrow_none (b : Nat) (x : Int) (hx : isW x = false) (w : World) :
    Calls Tryz.prog 137 #[.int .u64 b, .int .i64 x] w fun e w' => e = .returned (.tuple #[.int .u64 0, .bool false]) ∧ Below w.heap.size w w' := by
  have hof := fun W => fof_calls x W
  rw [hx] at hof
  obtain ⟨p, hp⟩ : ∃ p, ofP x = p := ⟨_, rfl⟩
  obtain ⟨k, hk⟩ : ∃ p, ofK x = p := ⟨_, rfl⟩
  obtain ⟨y, hy⟩ : ∃ p, ofW x = p := ⟨_, rfl⟩
  rw [hp, hk, hy] at hof
  clear hp hk hy hx
  go_enter Tryz.func137, Tryz.ntmps137
  go_wp2
  refine wp_scope_jumps 0 (JumpF w) (fun _ _ => 0) rfl ?first ?pass
  case pass =>
    rintro ⟨tmps, defers⟩ w' ⟨h1, h2, hb⟩
    change defers = [] at h1
    change tmps.size = 119 at h2
    subst h1
    go_wp2
    rw [jump_retF]
    exact bodyPost_ret (v := .tuple #[.int .u64 0, .bool false]) (by simp [results, Tryz.results137, go_sem, h2]) rfl ⟨rfl, hb⟩
  case first =>
    go_wp2_with fail
    refine (wide_calls _).mono ?_
    rintro e w1 ⟨rfl, hb1⟩
    have hW1 := hb1.alloc hb1.size (.cells #[.int .i64 52, .int .i64 11, .int .i64 64] 167)
    go_wp2_with fail
    generalize w1.alloc (.cells #[.int .i64 52, .int .i64 11, .int .i64 64] 167) = V1 at *
    refine (hof _).mono ?_
    rintro e w2 ⟨rfl, hb2⟩
    have hW2 := hW1.trans (hb2.mono hW1.size)
    have hW3 := hW2.alloc hW2.size (.cells #[.int .i64 p, .int .i64 k, .int .i64 y] 167)
    go_wp2_with fail
    go_step3
    go_wp2
    exact ⟨rfl, rfl, rfl, hW3⟩

set_option maxRecDepth 100000 in
set_option maxHeartbeats 4000000 in
theorem narrow_64 (x : Nat) (w : World) :
    Calls Tryz.prog 137 #[.int .u64 x, .int .i64 64] w fun e w' => e = .returned (.tuple #[.int .u64 x, .bool true]) ∧ Below w.heap.size w w' := by
  have hof := fun W => fof_calls 64 W
  change ∀ W, Calls _ _ _ _ fun e w' => e = .returned (.tuple #[.agg #[.int .i64 52, .int .i64 11, .int .i64 64], .bool true]) ∧ _ at hof
  have heq := eqF64
  have hg := guardF
  go_enter Tryz.func137, Tryz.ntmps137
  go_wp2
  refine wp_scope_jumps 0 (fun _ _ => False) (fun _ _ => 0) rfl ?first (fun _ _ h => h.elim)
  case first =>
    go_wp2_with fail
    refine (wide_calls _).mono ?_
    rintro e w1 ⟨rfl, hb1⟩
    have hW1 := hb1
    have hG2 := Cls.new w1 167 [.int .i64 52, .int .i64 11, .int .i64 64]
    have hW2 := hW1.alloc hW1.size (.cells #[.int .i64 52, .int .i64 11, .int .i64 64] 167)
    go_wp2_with fail
    generalize w1.alloc (.cells #[.int .i64 52, .int .i64 11, .int .i64 64] 167) = V3 at *
    refine (hof _).mono ?_
    rintro e w4 ⟨rfl, hb4⟩
    have hW4 := hW2.trans (hb4.mono hW2.size)
    have hG4 := hG2.below hb4
    have hG5 := hG4.alloc (.cells #[.int .i64 52, .int .i64 11, .int .i64 64] 167)
    have hF5 := Cls.new w4 167 [.int .i64 52, .int .i64 11, .int .i64 64]
    have hW5 := hW4.alloc hW4.size (.cells #[.int .i64 52, .int .i64 11, .int .i64 64] 167)
    have G_0 := hG5.cell 0 rfl
    have G_1 := hG5.cell 1 rfl
    have G_2 := hG5.cell 2 rfl
    have F_0 := hF5.cell 0 rfl
    have F_1 := hF5.cell 1 rfl
    have F_2 := hF5.cell 2 rfl
    go_wp2
    rw [jump_retF]
    go_ret2
    exact ⟨rfl, hW5⟩

set_option maxRecDepth 100000 in
set_option maxHeartbeats 4000000 in
theorem narrow16_far (x : Nat) (hx : x < 18446744073709551616) (hno : narV f16 x = none) (h2 : x / 4503599627370496 % 2048 ≠ 2047) (h3 : ¬ (x / 4503599627370496 % 2048 = 0 ∧ x % 4503599627370496 = 0))
    (h4 : ¬ (1023 < x / 4503599627370496 % 2048 + 15 ∧ x / 4503599627370496 % 2048 + 15 < 1023 + 32 - 1)) (h5 : ¬ (0 < x / 4503599627370496 % 2048 ∧ x / 4503599627370496 % 2048 + 15 ≤ 1023 ∧ 1023 < x / 4503599627370496 % 2048 + 15 + 10)) (w : World) :
    Calls Tryz.prog 137 #[.int .u64 x, .int .i64 16] w fun e w' => e = .returned (.tuple #[.int .u64 (narS x 16 : Nat), .bool (narB x 16)]) ∧ Below w.heap.size w w' := by
  have HR := hid (show narS x 16 = 0 ∧ narB x 16 = false by
    have e1 : narS x 16 = (narV f16 x).getD 0 := rfl
    have e2 : narB x 16 = (narV f16 x).isSome := rfl
    rw [e1, e2, hno]
    exact ⟨rfl, rfl⟩)
  have hof := fun W => fof_calls 16 W
  change ∀ W, Calls _ _ _ _ fun e w' => e = .returned (.tuple #[.agg #[.int .i64 10, .int .i64 5, .int .i64 16], .bool true]) ∧ _ at hof
  have heq := eqF16
  have hg := guardF
  have hparts := fun W => parts64_calls x hx W
  have hok := fun W => ones_calls 5 (by decide) W
  change ∀ W, Calls _ _ #[.int .i64 5] _ fun e w' => e = .returned (.int .u64 31) ∧ _ at hok
  have ho11 := fun W => ones_calls 11 (by decide) W
  change ∀ W, Calls _ _ #[.int .i64 11] _ fun e w' => e = .returned (.int .u64 2047) ∧ _ at ho11
  have hoL := fun W => ones_calls 42 (by decide) W
  change ∀ W, Calls _ _ #[.int .i64 42] _ fun e w' => e = .returned (.int .u64 4398046511103) ∧ _ at hoL
  have hs2 : x / 9223372036854775808 < 2 := by omega
  rw [show x / 9223372036854775808 % 2 = x / 9223372036854775808 from Nat.mod_eq_of_lt hs2] at hparts
  obtain ⟨s, hs⟩ : ∃ s, x / 9223372036854775808 = s := ⟨_, rfl⟩
  obtain ⟨E, he'⟩ : ∃ e, x / 4503599627370496 % 2048 = e := ⟨_, rfl⟩
  obtain ⟨F, hf⟩ : ∃ f, x % 4503599627370496 = f := ⟨_, rfl⟩
  have hFl : F < 4503599627370496 := by omega
  have hEl : E < 2048 := by omega
  rw [hs, he', hf] at hparts
  rw [hs] at hs2
  obtain ⟨y1, hy1⟩ : ∃ y : Int, (E : Int) - 1023 = y := ⟨_, rfl⟩
  obtain ⟨ee, hee⟩ : ∃ y : Int, y1 + 15 = y := ⟨_, rfl⟩
  have hyw : IntKind.i64.wrap y1 = y1 := IntWalk.i64_in _ (by omega)
  have hye : IntKind.i64.wrap ee = ee := IntWalk.i64_in _ (by omega)
  have hw3 : IntKind.i64.wrap 31 = 31 := by decide
  have hw4 : IntKind.i64.wrap 2047 = 2047 := by decide
  rw [he'] at h2 h3 h4 h5
  rw [hf] at h3
  have hne : ((E : Int) == 2047) = false := by rw [beq_eq_false_iff_ne]; omega
  have hz : (((E : Int) == 0) = false ∧ ((0 < ee ∧ ¬ ee < 31) ∨ (¬ 0 < ee ∧ (0 : Int) < (E : Int) ∧ ee ≤ 0 ∧ ¬ -10 < ee))) ∨ (E = 0 ∧ ((F : Int) == 0) = false ∧ ¬ 0 < ee) := by
    by_cases h0 : E = 0
    · exact .inr ⟨h0, by rw [beq_eq_false_iff_ne]; omega, by omega⟩
    · exact .inl ⟨by rw [beq_eq_false_iff_ne]; omega, by omega⟩
  clear h2 h3 h4 h5 hno hx hs he' hf hFl hEl
  go_enter Tryz.func137, Tryz.ntmps137
  go_wp2
  refine wp_scope_jumps 0 (JumpF w) (fun _ _ => 0) rfl ?first ?pass
  case pass =>
    rintro ⟨tmps, defers⟩ w' ⟨h1, h2, hb⟩
    change defers = [] at h1
    change tmps.size = 119 at h2
    subst h1
    go_wp2
    rw [jump_retF]
    exact bodyPost_ret (v := .tuple #[.int .u64 0, .bool false]) (by simp [results, Tryz.results137, go_sem, h2]) rfl ⟨by rw [HR.out.1, HR.out.2] <;> rfl, hb⟩
  case first =>
    go_wp2_with fail
    refine (wide_calls _).mono ?_
    rintro e w1 ⟨rfl, hb1⟩
    have hW1 := hb1
    have hG2 := Cls.new w1 167 [.int .i64 52, .int .i64 11, .int .i64 64]
    have hW2 := hW1.alloc hW1.size (.cells #[.int .i64 52, .int .i64 11, .int .i64 64] 167)
    go_wp2_with fail
    generalize w1.alloc (.cells #[.int .i64 52, .int .i64 11, .int .i64 64] 167) = V3 at *
    refine (hof _).mono ?_
    rintro e w4 ⟨rfl, hb4⟩
    have hW4 := hW2.trans (hb4.mono hW2.size)
    have hG4 := hG2.below hb4
    have hG5 := hG4.alloc (.cells #[.int .i64 10, .int .i64 5, .int .i64 16] 167)
    have hF5 := Cls.new w4 167 [.int .i64 10, .int .i64 5, .int .i64 16]
    have hW5 := hW4.alloc hW4.size (.cells #[.int .i64 10, .int .i64 5, .int .i64 16] 167)
    have G_0 := hG5.cell 0 rfl
    have G_1 := hG5.cell 1 rfl
    have G_2 := hG5.cell 2 rfl
    have F_0 := hF5.cell 0 rfl
    have F_1 := hF5.cell 1 rfl
    have F_2 := hF5.cell 2 rfl
    go_wp2_with fail
    generalize w4.alloc (.cells #[.int .i64 10, .int .i64 5, .int .i64 16] 167) = V6 at *
    clear G_0 G_1 G_2
    clear F_0 F_1 F_2
    refine (hparts _).mono ?_
    rintro e w7 ⟨rfl, hb7⟩
    have hW7 := hW5.trans (hb7.mono hW5.size)
    have hG7 := hG5.below hb7
    have hF7 := hF5.below hb7
    have G_0 := hG7.cell 0 rfl
    have G_1 := hG7.cell 1 rfl
    have G_2 := hG7.cell 2 rfl
    have F_0 := hF7.cell 0 rfl
    have F_1 := hF7.cell 1 rfl
    have F_2 := hF7.cell 2 rfl
    go_upto_region 10 with fail
    go_cut [14] (fun v wx => v = .int .i64 ee ∧ Cls wx (w1.heap.size) 167 [.int .i64 52, .int .i64 11, .int .i64 64] ∧ Cls wx (w4.heap.size) 167 [.int .i64 10, .int .i64 5, .int .i64 16] ∧ Below w.heap.size w wx)
    case first =>
      have hGG := hG7
      have hFF := hF7
      have hWW := hW7
      go_region_held3 (fun w' => w'.cell? ⟨w1.heap.size, 0, none⟩ = some (.int .i64 52) ∧ w'.cell? ⟨w1.heap.size, 1, none⟩ = some (.int .i64 11) ∧ w'.cell? ⟨w1.heap.size, 2, none⟩ = some (.int .i64 64) ∧ w'.cell? ⟨w4.heap.size, 0, none⟩ = some (.int .i64 10) ∧ w'.cell? ⟨w4.heap.size, 1, none⟩ = some (.int .i64 5) ∧ w'.cell? ⟨w4.heap.size, 2, none⟩ = some (.int .i64 16) ∧ Cls w' (w1.heap.size) 167 [.int .i64 52, .int .i64 11, .int .i64 64] ∧ Cls w' (w4.heap.size) 167 [.int .i64 10, .int .i64 5, .int .i64 16] ∧ Below w.heap.size w w')
        (first
          | (refine ⟨?_, ?_, ?_, ?_, ?_, ?_, ?_, ?_, ?_⟩ <;> first | assumption | exact cell_below (by assumption) hbX | exact Cls.below (by assumption) hbX | exact below_nextF (by assumption) hbX | exact Below.drew (by assumption))
          | go_keep
          | (go_split_ands
             refine ⟨?_, ?_, ?_, ?_, ?_, ?_, ?_, ?_, ?_⟩ <;> first | assumption | exact cell_below (by assumption) hbX | exact Cls.below (by assumption) hbX | exact below_nextF (by assumption) hbX | exact Below.drew (by assumption)))
        (first
          | (go_at_call_of 134 (Value.agg #[.int .i64 10, .int .i64 5, .int .i64 16]); refine (bias16_calls _).mono ?_; rintro e wa ⟨rfl, hbX⟩)
          | (go_at_call_of 134 (Value.agg #[.int .i64 52, .int .i64 11, .int .i64 64]); refine (bias64_calls _).mono ?_; rintro e wc ⟨rfl, hbX⟩))
      all_goals (
        go_wp2_with fail
        go_meet
        go_split_ands
        exact ⟨rfl, by assumption, by assumption, by assumption⟩)
    case rest =>
      clear G_0 G_1 G_2
      clear F_0 F_1 F_2
      obtain ⟨rfl, hG9, hF9, hW9⟩ := hcut
      have G_0 := hG9.cell 0 rfl
      have G_1 := hG9.cell 1 rfl
      have G_2 := hG9.cell 2 rfl
      have F_0 := hF9.cell 0 rfl
      have F_1 := hF9.cell 1 rfl
      have F_2 := hF9.cell 2 rfl
      rcases hz with ⟨z1, ⟨z2, z3⟩ | ⟨z2, z3, z4, z5⟩⟩ | ⟨rfl, z1, z2⟩
      all_goals (
        go_wp2_with (first | (go_at_call_of 132 (Value.int IntKind.i64 11); refine (ho11 _).mono ?_; rintro e v8 ⟨rfl, rfl⟩) | (go_at_call_of 132 (Value.int IntKind.i64 5); refine (hok _).mono ?_; rintro e v7 ⟨rfl, rfl⟩))
        go_step3
        go_wp2
        exact ⟨rfl, rfl, rfl, hW9⟩)

set_option maxRecDepth 100000 in
set_option maxHeartbeats 4000000 in
theorem narrow16_top_ok (x : Nat) (hx : x < 18446744073709551616) (h2 : x / 4503599627370496 % 2048 = 2047) (h9 : x % 4503599627370496 % 4398046511104 = 0) (w : World) :
    Calls Tryz.prog 137 #[.int .u64 x, .int .i64 16] w fun e w' => e = .returned (.tuple #[.int .u64 (narS x 16 : Nat), .bool (narB x 16)]) ∧ Below w.heap.size w w' := by
  have hof := fun W => fof_calls 16 W
  change ∀ W, Calls _ _ _ _ fun e w' => e = .returned (.tuple #[.agg #[.int .i64 10, .int .i64 5, .int .i64 16], .bool true]) ∧ _ at hof
  have heq := eqF16
  have hg := guardF
  have hparts := fun W => parts64_calls x hx W
  have hok := fun W => ones_calls 5 (by decide) W
  change ∀ W, Calls _ _ #[.int .i64 5] _ fun e w' => e = .returned (.int .u64 31) ∧ _ at hok
  have ho11 := fun W => ones_calls 11 (by decide) W
  change ∀ W, Calls _ _ #[.int .i64 11] _ fun e w' => e = .returned (.int .u64 2047) ∧ _ at ho11
  have hoL := fun W => ones_calls 42 (by decide) W
  change ∀ W, Calls _ _ #[.int .i64 42] _ fun e w' => e = .returned (.int .u64 4398046511103) ∧ _ at hoL
  have hs2 : x / 9223372036854775808 < 2 := by omega
  rw [show x / 9223372036854775808 % 2 = x / 9223372036854775808 from Nat.mod_eq_of_lt hs2] at hparts
  obtain ⟨s, hs⟩ : ∃ s, x / 9223372036854775808 = s := ⟨_, rfl⟩
  obtain ⟨E, he'⟩ : ∃ e, x / 4503599627370496 % 2048 = e := ⟨_, rfl⟩
  obtain ⟨F, hf⟩ : ∃ f, x % 4503599627370496 = f := ⟨_, rfl⟩
  have hFl : F < 4503599627370496 := by omega
  have hEl : E < 2048 := by omega
  rw [hs, he', hf] at hparts
  rw [hs] at hs2
  obtain ⟨y1, hy1⟩ : ∃ y : Int, (E : Int) - 1023 = y := ⟨_, rfl⟩
  obtain ⟨ee, hee⟩ : ∃ y : Int, y1 + 15 = y := ⟨_, rfl⟩
  have hyw : IntKind.i64.wrap y1 = y1 := IntWalk.i64_in _ (by omega)
  have hye : IntKind.i64.wrap ee = ee := IntWalk.i64_in _ (by omega)
  have hw3 : IntKind.i64.wrap 31 = 31 := by decide
  have hw4 : IntKind.i64.wrap 2047 = 2047 := by decide
  have hV : narV f16 x = narV f16 x := rfl
  conv at hV => rhs; unfold narV
  simp only [show x / C64 = s from hs, show x / A64 % 2048 = E from he', show x % A64 = F from hf] at hV
  rw [he'] at h2
  rw [if_pos h2] at hV
  rw [hf] at h9
  have t1 : ((E : Int) == 2047) = true := by rw [beq_iff_eq]; omega
  change narV f16 x = (if F % 4398046511104 = 0 then some (s * 32768 + 31 * 1024 + F / 4398046511104) else none) at hV
  rw [if_pos h9] at hV
  have hand := and_mask (x := F) (n := 42) (by omega) 4398046511103 (by decide) (by decide)
  change bits .and .u64 (F : Int) 4398046511103 = ((F % 4398046511104 : Nat) : Int) at hand
  obtain ⟨rm, hrm⟩ : ∃ r, F % 4398046511104 = r := ⟨_, rfl⟩
  rw [hrm] at hand h9
  have t9 : ((rm : Int) != 0) = false := by rw [h9]; rfl
  obtain ⟨q, hq⟩ : ∃ q, F / 4398046511104 = q := ⟨_, rfl⟩
  have hqi : (F : Int) / 4398046511104 = (q : Int) := by omega
  have hql : q < 1024 := by omega
  have hj := fun W => joined16_calls s 31 q hs2 (by omega) hql W
  change ∀ W, Calls _ _ #[_, _, .int .i64 31, _] _ _ at hj
  obtain ⟨v, hv⟩ : ∃ v, s * 32768 + 31 * 1024 + q = v := ⟨_, rfl⟩
  rw [hv] at hj
  have HR := hid (show narS x 16 = v ∧ narB x 16 = true by
    have e1 : narS x 16 = (narV f16 x).getD 0 := rfl
    have e2 : narB x 16 = (narV f16 x).isSome := rfl
    rw [e1, e2, hV, Option.getD_some, Option.isSome_some]
    exact ⟨by first | omega | (rw [← hv, hq]) | (rw [← hv, hq, he9]), rfl⟩)
  clear hV hv hql hq hs2 hrm h9 h2 hx hs he' hf hFl hEl
  go_enter Tryz.func137, Tryz.ntmps137
  go_wp2
  refine wp_scope_jumps 0 (fun _ _ => False) (fun _ _ => 0) rfl ?first (fun _ _ h => h.elim)
  case first =>
    go_wp2_with fail
    refine (wide_calls _).mono ?_
    rintro e w1 ⟨rfl, hb1⟩
    have hW1 := hb1
    have hG2 := Cls.new w1 167 [.int .i64 52, .int .i64 11, .int .i64 64]
    have hW2 := hW1.alloc hW1.size (.cells #[.int .i64 52, .int .i64 11, .int .i64 64] 167)
    go_wp2_with fail
    generalize w1.alloc (.cells #[.int .i64 52, .int .i64 11, .int .i64 64] 167) = V3 at *
    refine (hof _).mono ?_
    rintro e w4 ⟨rfl, hb4⟩
    have hW4 := hW2.trans (hb4.mono hW2.size)
    have hG4 := hG2.below hb4
    have hG5 := hG4.alloc (.cells #[.int .i64 10, .int .i64 5, .int .i64 16] 167)
    have hF5 := Cls.new w4 167 [.int .i64 10, .int .i64 5, .int .i64 16]
    have hW5 := hW4.alloc hW4.size (.cells #[.int .i64 10, .int .i64 5, .int .i64 16] 167)
    have G_0 := hG5.cell 0 rfl
    have G_1 := hG5.cell 1 rfl
    have G_2 := hG5.cell 2 rfl
    have F_0 := hF5.cell 0 rfl
    have F_1 := hF5.cell 1 rfl
    have F_2 := hF5.cell 2 rfl
    go_wp2_with fail
    generalize w4.alloc (.cells #[.int .i64 10, .int .i64 5, .int .i64 16] 167) = V6 at *
    clear G_0 G_1 G_2
    clear F_0 F_1 F_2
    refine (hparts _).mono ?_
    rintro e w7 ⟨rfl, hb7⟩
    have hW7 := hW5.trans (hb7.mono hW5.size)
    have hG7 := hG5.below hb7
    have hF7 := hF5.below hb7
    have G_0 := hG7.cell 0 rfl
    have G_1 := hG7.cell 1 rfl
    have G_2 := hG7.cell 2 rfl
    have F_0 := hF7.cell 0 rfl
    have F_1 := hF7.cell 1 rfl
    have F_2 := hF7.cell 2 rfl
    go_upto_region 10 with fail
    go_cut [14] (fun v wx => v = .int .i64 ee ∧ Cls wx (w1.heap.size) 167 [.int .i64 52, .int .i64 11, .int .i64 64] ∧ Cls wx (w4.heap.size) 167 [.int .i64 10, .int .i64 5, .int .i64 16] ∧ Below w.heap.size w wx)
    case first =>
      have hGG := hG7
      have hFF := hF7
      have hWW := hW7
      go_region_held3 (fun w' => w'.cell? ⟨w1.heap.size, 0, none⟩ = some (.int .i64 52) ∧ w'.cell? ⟨w1.heap.size, 1, none⟩ = some (.int .i64 11) ∧ w'.cell? ⟨w1.heap.size, 2, none⟩ = some (.int .i64 64) ∧ w'.cell? ⟨w4.heap.size, 0, none⟩ = some (.int .i64 10) ∧ w'.cell? ⟨w4.heap.size, 1, none⟩ = some (.int .i64 5) ∧ w'.cell? ⟨w4.heap.size, 2, none⟩ = some (.int .i64 16) ∧ Cls w' (w1.heap.size) 167 [.int .i64 52, .int .i64 11, .int .i64 64] ∧ Cls w' (w4.heap.size) 167 [.int .i64 10, .int .i64 5, .int .i64 16] ∧ Below w.heap.size w w')
        (first
          | (refine ⟨?_, ?_, ?_, ?_, ?_, ?_, ?_, ?_, ?_⟩ <;> first | assumption | exact cell_below (by assumption) hbX | exact Cls.below (by assumption) hbX | exact below_nextF (by assumption) hbX | exact Below.drew (by assumption))
          | go_keep
          | (go_split_ands
             refine ⟨?_, ?_, ?_, ?_, ?_, ?_, ?_, ?_, ?_⟩ <;> first | assumption | exact cell_below (by assumption) hbX | exact Cls.below (by assumption) hbX | exact below_nextF (by assumption) hbX | exact Below.drew (by assumption)))
        (first
          | (go_at_call_of 134 (Value.agg #[.int .i64 10, .int .i64 5, .int .i64 16]); refine (bias16_calls _).mono ?_; rintro e wa ⟨rfl, hbX⟩)
          | (go_at_call_of 134 (Value.agg #[.int .i64 52, .int .i64 11, .int .i64 64]); refine (bias64_calls _).mono ?_; rintro e wc ⟨rfl, hbX⟩))
      all_goals (
        go_wp2_with fail
        go_meet
        go_split_ands
        exact ⟨rfl, by assumption, by assumption, by assumption⟩)
    case rest =>
      clear G_0 G_1 G_2
      clear F_0 F_1 F_2
      obtain ⟨rfl, hG9, hF9, hW9⟩ := hcut
      have G_0 := hG9.cell 0 rfl
      have G_1 := hG9.cell 1 rfl
      have G_2 := hG9.cell 2 rfl
      have F_0 := hF9.cell 0 rfl
      have F_1 := hF9.cell 1 rfl
      have F_2 := hF9.cell 2 rfl
      go_wp2_with (first | (go_at_call_of 132 (Value.int IntKind.i64 11); refine (ho11 _).mono ?_; rintro e v8 ⟨rfl, rfl⟩) | (go_at_call_of 132 (Value.int IntKind.i64 5); refine (hok _).mono ?_; rintro e v7 ⟨rfl, rfl⟩) | (go_at_call_of 132 (Value.int IntKind.i64 42); refine (hoL _).mono ?_; rintro e v6 ⟨rfl, rfl⟩))
      go_region_held3 (fun w' => w'.cell? ⟨w4.heap.size, 0, none⟩ = some (.int .i64 10) ∧ w'.cell? ⟨w4.heap.size, 1, none⟩ = some (.int .i64 5) ∧ w'.cell? ⟨w4.heap.size, 2, none⟩ = some (.int .i64 16) ∧ Below w.heap.size w w')
        (first
          | (refine ⟨?_, ?_, ?_, ?_⟩ <;> first | assumption | exact cell_below (by assumption) hbX | exact below_nextF (by assumption) hbX | exact Below.drew (by assumption))
          | go_keep
          | (go_split_ands
             refine ⟨?_, ?_, ?_, ?_⟩ <;> first | assumption | exact cell_below (by assumption) hbX | exact below_nextF (by assumption) hbX | exact Below.drew (by assumption)))
        (first
          | (go_at_call 133; refine (hj _).mono ?_; rintro e wr ⟨rfl, hbX⟩))
      all_goals (
        go_wp2
        rw [jump_retF]
        go_ret2
        go_split_ands
        exact ⟨by rw [HR.out.1, HR.out.2] <;> rfl, by assumption⟩)

set_option maxRecDepth 100000 in
set_option maxHeartbeats 4000000 in
theorem narrow16_top_no (x : Nat) (hx : x < 18446744073709551616) (h2 : x / 4503599627370496 % 2048 = 2047) (h9 : x % 4503599627370496 % 4398046511104 ≠ 0) (w : World) :
    Calls Tryz.prog 137 #[.int .u64 x, .int .i64 16] w fun e w' => e = .returned (.tuple #[.int .u64 (narS x 16 : Nat), .bool (narB x 16)]) ∧ Below w.heap.size w w' := by
  have hof := fun W => fof_calls 16 W
  change ∀ W, Calls _ _ _ _ fun e w' => e = .returned (.tuple #[.agg #[.int .i64 10, .int .i64 5, .int .i64 16], .bool true]) ∧ _ at hof
  have heq := eqF16
  have hg := guardF
  have hparts := fun W => parts64_calls x hx W
  have hok := fun W => ones_calls 5 (by decide) W
  change ∀ W, Calls _ _ #[.int .i64 5] _ fun e w' => e = .returned (.int .u64 31) ∧ _ at hok
  have ho11 := fun W => ones_calls 11 (by decide) W
  change ∀ W, Calls _ _ #[.int .i64 11] _ fun e w' => e = .returned (.int .u64 2047) ∧ _ at ho11
  have hoL := fun W => ones_calls 42 (by decide) W
  change ∀ W, Calls _ _ #[.int .i64 42] _ fun e w' => e = .returned (.int .u64 4398046511103) ∧ _ at hoL
  have hs2 : x / 9223372036854775808 < 2 := by omega
  rw [show x / 9223372036854775808 % 2 = x / 9223372036854775808 from Nat.mod_eq_of_lt hs2] at hparts
  obtain ⟨s, hs⟩ : ∃ s, x / 9223372036854775808 = s := ⟨_, rfl⟩
  obtain ⟨E, he'⟩ : ∃ e, x / 4503599627370496 % 2048 = e := ⟨_, rfl⟩
  obtain ⟨F, hf⟩ : ∃ f, x % 4503599627370496 = f := ⟨_, rfl⟩
  have hFl : F < 4503599627370496 := by omega
  have hEl : E < 2048 := by omega
  rw [hs, he', hf] at hparts
  rw [hs] at hs2
  obtain ⟨y1, hy1⟩ : ∃ y : Int, (E : Int) - 1023 = y := ⟨_, rfl⟩
  obtain ⟨ee, hee⟩ : ∃ y : Int, y1 + 15 = y := ⟨_, rfl⟩
  have hyw : IntKind.i64.wrap y1 = y1 := IntWalk.i64_in _ (by omega)
  have hye : IntKind.i64.wrap ee = ee := IntWalk.i64_in _ (by omega)
  have hw3 : IntKind.i64.wrap 31 = 31 := by decide
  have hw4 : IntKind.i64.wrap 2047 = 2047 := by decide
  have hV : narV f16 x = narV f16 x := rfl
  conv at hV => rhs; unfold narV
  simp only [show x / C64 = s from hs, show x / A64 % 2048 = E from he', show x % A64 = F from hf] at hV
  rw [he'] at h2
  rw [if_pos h2] at hV
  rw [hf] at h9
  have t1 : ((E : Int) == 2047) = true := by rw [beq_iff_eq]; omega
  change narV f16 x = (if F % 4398046511104 = 0 then some (s * 32768 + 31 * 1024 + F / 4398046511104) else none) at hV
  rw [if_neg h9] at hV
  have hand := and_mask (x := F) (n := 42) (by omega) 4398046511103 (by decide) (by decide)
  change bits .and .u64 (F : Int) 4398046511103 = ((F % 4398046511104 : Nat) : Int) at hand
  obtain ⟨rm, hrm⟩ : ∃ r, F % 4398046511104 = r := ⟨_, rfl⟩
  rw [hrm] at hand h9
  have t9 : ((rm : Int) != 0) = true := by rw [bne_iff_ne]; omega
  have HR := hid (show narS x 16 = 0 ∧ narB x 16 = false by
    have e1 : narS x 16 = (narV f16 x).getD 0 := rfl
    have e2 : narB x 16 = (narV f16 x).isSome := rfl
    rw [e1, e2, hV]
    exact ⟨rfl, rfl⟩)
  clear hV hs2 hrm h9 h2 hx hs he' hf hFl hEl
  go_enter Tryz.func137, Tryz.ntmps137
  go_wp2
  refine wp_scope_jumps 0 (JumpF w) (fun _ _ => 0) rfl ?first ?pass
  case pass =>
    rintro ⟨tmps, defers⟩ w' ⟨h1, h2, hb⟩
    change defers = [] at h1
    change tmps.size = 119 at h2
    subst h1
    go_wp2
    rw [jump_retF]
    exact bodyPost_ret (v := .tuple #[.int .u64 0, .bool false]) (by simp [results, Tryz.results137, go_sem, h2]) rfl ⟨by rw [HR.out.1, HR.out.2] <;> rfl, hb⟩
  case first =>
    go_wp2_with fail
    refine (wide_calls _).mono ?_
    rintro e w1 ⟨rfl, hb1⟩
    have hW1 := hb1
    have hG2 := Cls.new w1 167 [.int .i64 52, .int .i64 11, .int .i64 64]
    have hW2 := hW1.alloc hW1.size (.cells #[.int .i64 52, .int .i64 11, .int .i64 64] 167)
    go_wp2_with fail
    generalize w1.alloc (.cells #[.int .i64 52, .int .i64 11, .int .i64 64] 167) = V3 at *
    refine (hof _).mono ?_
    rintro e w4 ⟨rfl, hb4⟩
    have hW4 := hW2.trans (hb4.mono hW2.size)
    have hG4 := hG2.below hb4
    have hG5 := hG4.alloc (.cells #[.int .i64 10, .int .i64 5, .int .i64 16] 167)
    have hF5 := Cls.new w4 167 [.int .i64 10, .int .i64 5, .int .i64 16]
    have hW5 := hW4.alloc hW4.size (.cells #[.int .i64 10, .int .i64 5, .int .i64 16] 167)
    have G_0 := hG5.cell 0 rfl
    have G_1 := hG5.cell 1 rfl
    have G_2 := hG5.cell 2 rfl
    have F_0 := hF5.cell 0 rfl
    have F_1 := hF5.cell 1 rfl
    have F_2 := hF5.cell 2 rfl
    go_wp2_with fail
    generalize w4.alloc (.cells #[.int .i64 10, .int .i64 5, .int .i64 16] 167) = V6 at *
    clear G_0 G_1 G_2
    clear F_0 F_1 F_2
    refine (hparts _).mono ?_
    rintro e w7 ⟨rfl, hb7⟩
    have hW7 := hW5.trans (hb7.mono hW5.size)
    have hG7 := hG5.below hb7
    have hF7 := hF5.below hb7
    have G_0 := hG7.cell 0 rfl
    have G_1 := hG7.cell 1 rfl
    have G_2 := hG7.cell 2 rfl
    have F_0 := hF7.cell 0 rfl
    have F_1 := hF7.cell 1 rfl
    have F_2 := hF7.cell 2 rfl
    go_upto_region 10 with fail
    go_cut [14] (fun v wx => v = .int .i64 ee ∧ Cls wx (w1.heap.size) 167 [.int .i64 52, .int .i64 11, .int .i64 64] ∧ Cls wx (w4.heap.size) 167 [.int .i64 10, .int .i64 5, .int .i64 16] ∧ Below w.heap.size w wx)
    case first =>
      have hGG := hG7
      have hFF := hF7
      have hWW := hW7
      go_region_held3 (fun w' => w'.cell? ⟨w1.heap.size, 0, none⟩ = some (.int .i64 52) ∧ w'.cell? ⟨w1.heap.size, 1, none⟩ = some (.int .i64 11) ∧ w'.cell? ⟨w1.heap.size, 2, none⟩ = some (.int .i64 64) ∧ w'.cell? ⟨w4.heap.size, 0, none⟩ = some (.int .i64 10) ∧ w'.cell? ⟨w4.heap.size, 1, none⟩ = some (.int .i64 5) ∧ w'.cell? ⟨w4.heap.size, 2, none⟩ = some (.int .i64 16) ∧ Cls w' (w1.heap.size) 167 [.int .i64 52, .int .i64 11, .int .i64 64] ∧ Cls w' (w4.heap.size) 167 [.int .i64 10, .int .i64 5, .int .i64 16] ∧ Below w.heap.size w w')
        (first
          | (refine ⟨?_, ?_, ?_, ?_, ?_, ?_, ?_, ?_, ?_⟩ <;> first | assumption | exact cell_below (by assumption) hbX | exact Cls.below (by assumption) hbX | exact below_nextF (by assumption) hbX | exact Below.drew (by assumption))
          | go_keep
          | (go_split_ands
             refine ⟨?_, ?_, ?_, ?_, ?_, ?_, ?_, ?_, ?_⟩ <;> first | assumption | exact cell_below (by assumption) hbX | exact Cls.below (by assumption) hbX | exact below_nextF (by assumption) hbX | exact Below.drew (by assumption)))
        (first
          | (go_at_call_of 134 (Value.agg #[.int .i64 10, .int .i64 5, .int .i64 16]); refine (bias16_calls _).mono ?_; rintro e wa ⟨rfl, hbX⟩)
          | (go_at_call_of 134 (Value.agg #[.int .i64 52, .int .i64 11, .int .i64 64]); refine (bias64_calls _).mono ?_; rintro e wc ⟨rfl, hbX⟩))
      all_goals (
        go_wp2_with fail
        go_meet
        go_split_ands
        exact ⟨rfl, by assumption, by assumption, by assumption⟩)
    case rest =>
      clear G_0 G_1 G_2
      clear F_0 F_1 F_2
      obtain ⟨rfl, hG9, hF9, hW9⟩ := hcut
      have G_0 := hG9.cell 0 rfl
      have G_1 := hG9.cell 1 rfl
      have G_2 := hG9.cell 2 rfl
      have F_0 := hF9.cell 0 rfl
      have F_1 := hF9.cell 1 rfl
      have F_2 := hF9.cell 2 rfl
      go_wp2_with (first | (go_at_call_of 132 (Value.int IntKind.i64 11); refine (ho11 _).mono ?_; rintro e v8 ⟨rfl, rfl⟩) | (go_at_call_of 132 (Value.int IntKind.i64 5); refine (hok _).mono ?_; rintro e v7 ⟨rfl, rfl⟩) | (go_at_call_of 132 (Value.int IntKind.i64 42); refine (hoL _).mono ?_; rintro e v6 ⟨rfl, rfl⟩))
      go_step3
      go_wp2
      exact ⟨rfl, rfl, rfl, hW9⟩

set_option maxRecDepth 100000 in
set_option maxHeartbeats 4000000 in
theorem narrow16_zero_ok (x : Nat) (hx : x < 18446744073709551616) (h2 : x / 4503599627370496 % 2048 = 0 ∧ x % 4503599627370496 = 0)  (w : World) :
    Calls Tryz.prog 137 #[.int .u64 x, .int .i64 16] w fun e w' => e = .returned (.tuple #[.int .u64 (narS x 16 : Nat), .bool (narB x 16)]) ∧ Below w.heap.size w w' := by
  have hof := fun W => fof_calls 16 W
  change ∀ W, Calls _ _ _ _ fun e w' => e = .returned (.tuple #[.agg #[.int .i64 10, .int .i64 5, .int .i64 16], .bool true]) ∧ _ at hof
  have heq := eqF16
  have hg := guardF
  have hparts := fun W => parts64_calls x hx W
  have hok := fun W => ones_calls 5 (by decide) W
  change ∀ W, Calls _ _ #[.int .i64 5] _ fun e w' => e = .returned (.int .u64 31) ∧ _ at hok
  have ho11 := fun W => ones_calls 11 (by decide) W
  change ∀ W, Calls _ _ #[.int .i64 11] _ fun e w' => e = .returned (.int .u64 2047) ∧ _ at ho11
  have hoL := fun W => ones_calls 42 (by decide) W
  change ∀ W, Calls _ _ #[.int .i64 42] _ fun e w' => e = .returned (.int .u64 4398046511103) ∧ _ at hoL
  have hs2 : x / 9223372036854775808 < 2 := by omega
  rw [show x / 9223372036854775808 % 2 = x / 9223372036854775808 from Nat.mod_eq_of_lt hs2] at hparts
  obtain ⟨s, hs⟩ : ∃ s, x / 9223372036854775808 = s := ⟨_, rfl⟩
  obtain ⟨E, he'⟩ : ∃ e, x / 4503599627370496 % 2048 = e := ⟨_, rfl⟩
  obtain ⟨F, hf⟩ : ∃ f, x % 4503599627370496 = f := ⟨_, rfl⟩
  have hFl : F < 4503599627370496 := by omega
  have hEl : E < 2048 := by omega
  rw [hs, he', hf] at hparts
  rw [hs] at hs2
  obtain ⟨y1, hy1⟩ : ∃ y : Int, (E : Int) - 1023 = y := ⟨_, rfl⟩
  obtain ⟨ee, hee⟩ : ∃ y : Int, y1 + 15 = y := ⟨_, rfl⟩
  have hyw : IntKind.i64.wrap y1 = y1 := IntWalk.i64_in _ (by omega)
  have hye : IntKind.i64.wrap ee = ee := IntWalk.i64_in _ (by omega)
  have hw3 : IntKind.i64.wrap 31 = 31 := by decide
  have hw4 : IntKind.i64.wrap 2047 = 2047 := by decide
  have hV : narV f16 x = narV f16 x := rfl
  conv at hV => rhs; unfold narV
  simp only [show x / C64 = s from hs, show x / A64 % 2048 = E from he', show x % A64 = F from hf] at hV
  rw [he'] at h2
  rw [hf] at h2
  rw [if_neg (by omega), if_pos h2] at hV
  have h9 : F % 4398046511104 = 0 := by omega
  have t0 : ((E : Int) == 2047) = false := by rw [beq_eq_false_iff_ne]; omega
  have t1 : ((E : Int) == 0) = true := by rw [beq_iff_eq]; omega
  have t2 : ((F : Int) == 0) = true := by rw [beq_iff_eq]; omega
  change narV f16 x = some (s * 32768) at hV
  have hand := and_mask (x := F) (n := 42) (by omega) 4398046511103 (by decide) (by decide)
  change bits .and .u64 (F : Int) 4398046511103 = ((F % 4398046511104 : Nat) : Int) at hand
  obtain ⟨rm, hrm⟩ : ∃ r, F % 4398046511104 = r := ⟨_, rfl⟩
  rw [hrm] at hand h9
  have t9 : ((rm : Int) != 0) = false := by rw [h9]; rfl
  obtain ⟨q, hq⟩ : ∃ q, F / 4398046511104 = q := ⟨_, rfl⟩
  have hqi : (F : Int) / 4398046511104 = (q : Int) := by omega
  have hql : q < 1024 := by omega
  have hj := fun W => joined16_calls s E q hs2 (by omega) hql W
  obtain ⟨v, hv⟩ : ∃ v, s * 32768 + E * 1024 + q = v := ⟨_, rfl⟩
  rw [hv] at hj
  have HR := hid (show narS x 16 = v ∧ narB x 16 = true by
    have e1 : narS x 16 = (narV f16 x).getD 0 := rfl
    have e2 : narB x 16 = (narV f16 x).isSome := rfl
    rw [e1, e2, hV, Option.getD_some, Option.isSome_some]
    exact ⟨by first | omega | (rw [← hv, hq]) | (rw [← hv, hq, he9]), rfl⟩)
  clear hV hv hql hq hs2 hrm h9 h2 hx hs he' hf hFl hEl
  go_enter Tryz.func137, Tryz.ntmps137
  go_wp2
  refine wp_scope_jumps 0 (fun _ _ => False) (fun _ _ => 0) rfl ?first (fun _ _ h => h.elim)
  case first =>
    go_wp2_with fail
    refine (wide_calls _).mono ?_
    rintro e w1 ⟨rfl, hb1⟩
    have hW1 := hb1
    have hG2 := Cls.new w1 167 [.int .i64 52, .int .i64 11, .int .i64 64]
    have hW2 := hW1.alloc hW1.size (.cells #[.int .i64 52, .int .i64 11, .int .i64 64] 167)
    go_wp2_with fail
    generalize w1.alloc (.cells #[.int .i64 52, .int .i64 11, .int .i64 64] 167) = V3 at *
    refine (hof _).mono ?_
    rintro e w4 ⟨rfl, hb4⟩
    have hW4 := hW2.trans (hb4.mono hW2.size)
    have hG4 := hG2.below hb4
    have hG5 := hG4.alloc (.cells #[.int .i64 10, .int .i64 5, .int .i64 16] 167)
    have hF5 := Cls.new w4 167 [.int .i64 10, .int .i64 5, .int .i64 16]
    have hW5 := hW4.alloc hW4.size (.cells #[.int .i64 10, .int .i64 5, .int .i64 16] 167)
    have G_0 := hG5.cell 0 rfl
    have G_1 := hG5.cell 1 rfl
    have G_2 := hG5.cell 2 rfl
    have F_0 := hF5.cell 0 rfl
    have F_1 := hF5.cell 1 rfl
    have F_2 := hF5.cell 2 rfl
    go_wp2_with fail
    generalize w4.alloc (.cells #[.int .i64 10, .int .i64 5, .int .i64 16] 167) = V6 at *
    clear G_0 G_1 G_2
    clear F_0 F_1 F_2
    refine (hparts _).mono ?_
    rintro e w7 ⟨rfl, hb7⟩
    have hW7 := hW5.trans (hb7.mono hW5.size)
    have hG7 := hG5.below hb7
    have hF7 := hF5.below hb7
    have G_0 := hG7.cell 0 rfl
    have G_1 := hG7.cell 1 rfl
    have G_2 := hG7.cell 2 rfl
    have F_0 := hF7.cell 0 rfl
    have F_1 := hF7.cell 1 rfl
    have F_2 := hF7.cell 2 rfl
    go_upto_region 10 with fail
    go_cut [14] (fun v wx => v = .int .i64 ee ∧ Cls wx (w1.heap.size) 167 [.int .i64 52, .int .i64 11, .int .i64 64] ∧ Cls wx (w4.heap.size) 167 [.int .i64 10, .int .i64 5, .int .i64 16] ∧ Below w.heap.size w wx)
    case first =>
      have hGG := hG7
      have hFF := hF7
      have hWW := hW7
      go_region_held3 (fun w' => w'.cell? ⟨w1.heap.size, 0, none⟩ = some (.int .i64 52) ∧ w'.cell? ⟨w1.heap.size, 1, none⟩ = some (.int .i64 11) ∧ w'.cell? ⟨w1.heap.size, 2, none⟩ = some (.int .i64 64) ∧ w'.cell? ⟨w4.heap.size, 0, none⟩ = some (.int .i64 10) ∧ w'.cell? ⟨w4.heap.size, 1, none⟩ = some (.int .i64 5) ∧ w'.cell? ⟨w4.heap.size, 2, none⟩ = some (.int .i64 16) ∧ Cls w' (w1.heap.size) 167 [.int .i64 52, .int .i64 11, .int .i64 64] ∧ Cls w' (w4.heap.size) 167 [.int .i64 10, .int .i64 5, .int .i64 16] ∧ Below w.heap.size w w')
        (first
          | (refine ⟨?_, ?_, ?_, ?_, ?_, ?_, ?_, ?_, ?_⟩ <;> first | assumption | exact cell_below (by assumption) hbX | exact Cls.below (by assumption) hbX | exact below_nextF (by assumption) hbX | exact Below.drew (by assumption))
          | go_keep
          | (go_split_ands
             refine ⟨?_, ?_, ?_, ?_, ?_, ?_, ?_, ?_, ?_⟩ <;> first | assumption | exact cell_below (by assumption) hbX | exact Cls.below (by assumption) hbX | exact below_nextF (by assumption) hbX | exact Below.drew (by assumption)))
        (first
          | (go_at_call_of 134 (Value.agg #[.int .i64 10, .int .i64 5, .int .i64 16]); refine (bias16_calls _).mono ?_; rintro e wa ⟨rfl, hbX⟩)
          | (go_at_call_of 134 (Value.agg #[.int .i64 52, .int .i64 11, .int .i64 64]); refine (bias64_calls _).mono ?_; rintro e wc ⟨rfl, hbX⟩))
      all_goals (
        go_wp2_with fail
        go_meet
        go_split_ands
        exact ⟨rfl, by assumption, by assumption, by assumption⟩)
    case rest =>
      clear G_0 G_1 G_2
      clear F_0 F_1 F_2
      obtain ⟨rfl, hG9, hF9, hW9⟩ := hcut
      have G_0 := hG9.cell 0 rfl
      have G_1 := hG9.cell 1 rfl
      have G_2 := hG9.cell 2 rfl
      have F_0 := hF9.cell 0 rfl
      have F_1 := hF9.cell 1 rfl
      have F_2 := hF9.cell 2 rfl
      go_wp2_with (first | (go_at_call_of 132 (Value.int IntKind.i64 11); refine (ho11 _).mono ?_; rintro e v8 ⟨rfl, rfl⟩) | (go_at_call_of 132 (Value.int IntKind.i64 5); refine (hok _).mono ?_; rintro e v7 ⟨rfl, rfl⟩) | (go_at_call_of 132 (Value.int IntKind.i64 42); refine (hoL _).mono ?_; rintro e v6 ⟨rfl, rfl⟩))
      go_region_held3 (fun w' => w'.cell? ⟨w4.heap.size, 0, none⟩ = some (.int .i64 10) ∧ w'.cell? ⟨w4.heap.size, 1, none⟩ = some (.int .i64 5) ∧ w'.cell? ⟨w4.heap.size, 2, none⟩ = some (.int .i64 16) ∧ Below w.heap.size w w')
        (first
          | (refine ⟨?_, ?_, ?_, ?_⟩ <;> first | assumption | exact cell_below (by assumption) hbX | exact below_nextF (by assumption) hbX | exact Below.drew (by assumption))
          | go_keep
          | (go_split_ands
             refine ⟨?_, ?_, ?_, ?_⟩ <;> first | assumption | exact cell_below (by assumption) hbX | exact below_nextF (by assumption) hbX | exact Below.drew (by assumption)))
        (first
          | (go_at_call 133; refine (hj _).mono ?_; rintro e wr ⟨rfl, hbX⟩))
      all_goals (
        go_wp2
        rw [jump_retF]
        go_ret2
        go_split_ands
        exact ⟨by rw [HR.out.1, HR.out.2] <;> rfl, by assumption⟩)

set_option maxRecDepth 100000 in
set_option maxHeartbeats 4000000 in
theorem narrow16_main_ok (x : Nat) (hx : x < 18446744073709551616) (h2 : x / 4503599627370496 % 2048 ≠ 2047) (h3 : 1023 < x / 4503599627370496 % 2048 + 15 ∧ x / 4503599627370496 % 2048 + 15 < 1023 + 32 - 1) (h9 : x % 4503599627370496 % 4398046511104 = 0) (w : World) :
    Calls Tryz.prog 137 #[.int .u64 x, .int .i64 16] w fun e w' => e = .returned (.tuple #[.int .u64 (narS x 16 : Nat), .bool (narB x 16)]) ∧ Below w.heap.size w w' := by
  have hof := fun W => fof_calls 16 W
  change ∀ W, Calls _ _ _ _ fun e w' => e = .returned (.tuple #[.agg #[.int .i64 10, .int .i64 5, .int .i64 16], .bool true]) ∧ _ at hof
  have heq := eqF16
  have hg := guardF
  have hparts := fun W => parts64_calls x hx W
  have hok := fun W => ones_calls 5 (by decide) W
  change ∀ W, Calls _ _ #[.int .i64 5] _ fun e w' => e = .returned (.int .u64 31) ∧ _ at hok
  have ho11 := fun W => ones_calls 11 (by decide) W
  change ∀ W, Calls _ _ #[.int .i64 11] _ fun e w' => e = .returned (.int .u64 2047) ∧ _ at ho11
  have hoL := fun W => ones_calls 42 (by decide) W
  change ∀ W, Calls _ _ #[.int .i64 42] _ fun e w' => e = .returned (.int .u64 4398046511103) ∧ _ at hoL
  have hs2 : x / 9223372036854775808 < 2 := by omega
  rw [show x / 9223372036854775808 % 2 = x / 9223372036854775808 from Nat.mod_eq_of_lt hs2] at hparts
  obtain ⟨s, hs⟩ : ∃ s, x / 9223372036854775808 = s := ⟨_, rfl⟩
  obtain ⟨E, he'⟩ : ∃ e, x / 4503599627370496 % 2048 = e := ⟨_, rfl⟩
  obtain ⟨F, hf⟩ : ∃ f, x % 4503599627370496 = f := ⟨_, rfl⟩
  have hFl : F < 4503599627370496 := by omega
  have hEl : E < 2048 := by omega
  rw [hs, he', hf] at hparts
  rw [hs] at hs2
  obtain ⟨y1, hy1⟩ : ∃ y : Int, (E : Int) - 1023 = y := ⟨_, rfl⟩
  obtain ⟨ee, hee⟩ : ∃ y : Int, y1 + 15 = y := ⟨_, rfl⟩
  have hyw : IntKind.i64.wrap y1 = y1 := IntWalk.i64_in _ (by omega)
  have hye : IntKind.i64.wrap ee = ee := IntWalk.i64_in _ (by omega)
  have hw3 : IntKind.i64.wrap 31 = 31 := by decide
  have hw4 : IntKind.i64.wrap 2047 = 2047 := by decide
  have hV : narV f16 x = narV f16 x := rfl
  conv at hV => rhs; unfold narV
  simp only [show x / C64 = s from hs, show x / A64 % 2048 = E from he', show x % A64 = F from hf] at hV
  rw [he'] at h2
  rw [he'] at h3
  rw [if_neg h2, if_neg (by omega), if_pos (show 1023 < E + f16.bias ∧ E + f16.bias < 1023 + f16.B - 1 from h3)] at hV
  rw [hf] at h9
  have t0 : ((E : Int) == 2047) = false := by rw [beq_eq_false_iff_ne]; omega
  have t1 : ((E : Int) == 0) = false := by rw [beq_eq_false_iff_ne]; omega
  obtain ⟨e9, rfl⟩ : ∃ n : Nat, ee = n := ⟨ee.toNat, by omega⟩
  have t2 : (0 : Int) < (e9 : Int) := by omega
  have t3 : (e9 : Int) < 31 := by omega
  have he9 : E + 15 - 1023 = e9 := by omega
  change narV f16 x = (if F % 4398046511104 = 0 then some (s * 32768 + (E + 15 - 1023) * 1024 + F / 4398046511104) else none) at hV
  rw [if_pos h9] at hV
  have hand := and_mask (x := F) (n := 42) (by omega) 4398046511103 (by decide) (by decide)
  change bits .and .u64 (F : Int) 4398046511103 = ((F % 4398046511104 : Nat) : Int) at hand
  obtain ⟨rm, hrm⟩ : ∃ r, F % 4398046511104 = r := ⟨_, rfl⟩
  rw [hrm] at hand h9
  have t9 : ((rm : Int) != 0) = false := by rw [h9]; rfl
  obtain ⟨q, hq⟩ : ∃ q, F / 4398046511104 = q := ⟨_, rfl⟩
  have hqi : (F : Int) / 4398046511104 = (q : Int) := by omega
  have hql : q < 1024 := by omega
  have hj := fun W => joined16_calls s e9 q hs2 (by omega) hql W
  obtain ⟨v, hv⟩ : ∃ v, s * 32768 + e9 * 1024 + q = v := ⟨_, rfl⟩
  rw [hv] at hj
  have HR := hid (show narS x 16 = v ∧ narB x 16 = true by
    have e1 : narS x 16 = (narV f16 x).getD 0 := rfl
    have e2 : narB x 16 = (narV f16 x).isSome := rfl
    rw [e1, e2, hV, Option.getD_some, Option.isSome_some]
    exact ⟨by first | omega | (rw [← hv, hq]) | (rw [← hv, hq, he9]), rfl⟩)
  clear hV hv hql hq hs2 hrm h9 h2 hx hs he' hf hFl hEl
  clear he9 h3
  go_enter Tryz.func137, Tryz.ntmps137
  go_wp2
  refine wp_scope_jumps 0 (fun _ _ => False) (fun _ _ => 0) rfl ?first (fun _ _ h => h.elim)
  case first =>
    go_wp2_with fail
    refine (wide_calls _).mono ?_
    rintro e w1 ⟨rfl, hb1⟩
    have hW1 := hb1
    have hG2 := Cls.new w1 167 [.int .i64 52, .int .i64 11, .int .i64 64]
    have hW2 := hW1.alloc hW1.size (.cells #[.int .i64 52, .int .i64 11, .int .i64 64] 167)
    go_wp2_with fail
    generalize w1.alloc (.cells #[.int .i64 52, .int .i64 11, .int .i64 64] 167) = V3 at *
    refine (hof _).mono ?_
    rintro e w4 ⟨rfl, hb4⟩
    have hW4 := hW2.trans (hb4.mono hW2.size)
    have hG4 := hG2.below hb4
    have hG5 := hG4.alloc (.cells #[.int .i64 10, .int .i64 5, .int .i64 16] 167)
    have hF5 := Cls.new w4 167 [.int .i64 10, .int .i64 5, .int .i64 16]
    have hW5 := hW4.alloc hW4.size (.cells #[.int .i64 10, .int .i64 5, .int .i64 16] 167)
    have G_0 := hG5.cell 0 rfl
    have G_1 := hG5.cell 1 rfl
    have G_2 := hG5.cell 2 rfl
    have F_0 := hF5.cell 0 rfl
    have F_1 := hF5.cell 1 rfl
    have F_2 := hF5.cell 2 rfl
    go_wp2_with fail
    generalize w4.alloc (.cells #[.int .i64 10, .int .i64 5, .int .i64 16] 167) = V6 at *
    clear G_0 G_1 G_2
    clear F_0 F_1 F_2
    refine (hparts _).mono ?_
    rintro e w7 ⟨rfl, hb7⟩
    have hW7 := hW5.trans (hb7.mono hW5.size)
    have hG7 := hG5.below hb7
    have hF7 := hF5.below hb7
    have G_0 := hG7.cell 0 rfl
    have G_1 := hG7.cell 1 rfl
    have G_2 := hG7.cell 2 rfl
    have F_0 := hF7.cell 0 rfl
    have F_1 := hF7.cell 1 rfl
    have F_2 := hF7.cell 2 rfl
    go_upto_region 10 with fail
    go_cut [14] (fun v wx => v = .int .i64 e9 ∧ Cls wx (w1.heap.size) 167 [.int .i64 52, .int .i64 11, .int .i64 64] ∧ Cls wx (w4.heap.size) 167 [.int .i64 10, .int .i64 5, .int .i64 16] ∧ Below w.heap.size w wx)
    case first =>
      have hGG := hG7
      have hFF := hF7
      have hWW := hW7
      go_region_held3 (fun w' => w'.cell? ⟨w1.heap.size, 0, none⟩ = some (.int .i64 52) ∧ w'.cell? ⟨w1.heap.size, 1, none⟩ = some (.int .i64 11) ∧ w'.cell? ⟨w1.heap.size, 2, none⟩ = some (.int .i64 64) ∧ w'.cell? ⟨w4.heap.size, 0, none⟩ = some (.int .i64 10) ∧ w'.cell? ⟨w4.heap.size, 1, none⟩ = some (.int .i64 5) ∧ w'.cell? ⟨w4.heap.size, 2, none⟩ = some (.int .i64 16) ∧ Cls w' (w1.heap.size) 167 [.int .i64 52, .int .i64 11, .int .i64 64] ∧ Cls w' (w4.heap.size) 167 [.int .i64 10, .int .i64 5, .int .i64 16] ∧ Below w.heap.size w w')
        (first
          | (refine ⟨?_, ?_, ?_, ?_, ?_, ?_, ?_, ?_, ?_⟩ <;> first | assumption | exact cell_below (by assumption) hbX | exact Cls.below (by assumption) hbX | exact below_nextF (by assumption) hbX | exact Below.drew (by assumption))
          | go_keep
          | (go_split_ands
             refine ⟨?_, ?_, ?_, ?_, ?_, ?_, ?_, ?_, ?_⟩ <;> first | assumption | exact cell_below (by assumption) hbX | exact Cls.below (by assumption) hbX | exact below_nextF (by assumption) hbX | exact Below.drew (by assumption)))
        (first
          | (go_at_call_of 134 (Value.agg #[.int .i64 10, .int .i64 5, .int .i64 16]); refine (bias16_calls _).mono ?_; rintro e wa ⟨rfl, hbX⟩)
          | (go_at_call_of 134 (Value.agg #[.int .i64 52, .int .i64 11, .int .i64 64]); refine (bias64_calls _).mono ?_; rintro e wc ⟨rfl, hbX⟩))
      all_goals (
        go_wp2_with fail
        go_meet
        go_split_ands
        exact ⟨rfl, by assumption, by assumption, by assumption⟩)
    case rest =>
      clear G_0 G_1 G_2
      clear F_0 F_1 F_2
      obtain ⟨rfl, hG9, hF9, hW9⟩ := hcut
      have G_0 := hG9.cell 0 rfl
      have G_1 := hG9.cell 1 rfl
      have G_2 := hG9.cell 2 rfl
      have F_0 := hF9.cell 0 rfl
      have F_1 := hF9.cell 1 rfl
      have F_2 := hF9.cell 2 rfl
      go_wp2_with (first | (go_at_call_of 132 (Value.int IntKind.i64 11); refine (ho11 _).mono ?_; rintro e v8 ⟨rfl, rfl⟩) | (go_at_call_of 132 (Value.int IntKind.i64 5); refine (hok _).mono ?_; rintro e v7 ⟨rfl, rfl⟩) | (go_at_call_of 132 (Value.int IntKind.i64 42); refine (hoL _).mono ?_; rintro e v6 ⟨rfl, rfl⟩))
      go_region_held3 (fun w' => w'.cell? ⟨w4.heap.size, 0, none⟩ = some (.int .i64 10) ∧ w'.cell? ⟨w4.heap.size, 1, none⟩ = some (.int .i64 5) ∧ w'.cell? ⟨w4.heap.size, 2, none⟩ = some (.int .i64 16) ∧ Below w.heap.size w w')
        (first
          | (refine ⟨?_, ?_, ?_, ?_⟩ <;> first | assumption | exact cell_below (by assumption) hbX | exact below_nextF (by assumption) hbX | exact Below.drew (by assumption))
          | go_keep
          | (go_split_ands
             refine ⟨?_, ?_, ?_, ?_⟩ <;> first | assumption | exact cell_below (by assumption) hbX | exact below_nextF (by assumption) hbX | exact Below.drew (by assumption)))
        (first
          | (go_at_call 133; refine (hj _).mono ?_; rintro e wr ⟨rfl, hbX⟩))
      all_goals (
        go_wp2
        rw [jump_retF]
        go_ret2
        go_split_ands
        exact ⟨by rw [HR.out.1, HR.out.2] <;> rfl, by assumption⟩)

set_option maxRecDepth 100000 in
set_option maxHeartbeats 4000000 in
theorem narrow16_main_no (x : Nat) (hx : x < 18446744073709551616) (h2 : x / 4503599627370496 % 2048 ≠ 2047) (h3 : 1023 < x / 4503599627370496 % 2048 + 15 ∧ x / 4503599627370496 % 2048 + 15 < 1023 + 32 - 1) (h9 : x % 4503599627370496 % 4398046511104 ≠ 0) (w : World) :
    Calls Tryz.prog 137 #[.int .u64 x, .int .i64 16] w fun e w' => e = .returned (.tuple #[.int .u64 (narS x 16 : Nat), .bool (narB x 16)]) ∧ Below w.heap.size w w' := by
  have hof := fun W => fof_calls 16 W
  change ∀ W, Calls _ _ _ _ fun e w' => e = .returned (.tuple #[.agg #[.int .i64 10, .int .i64 5, .int .i64 16], .bool true]) ∧ _ at hof
  have heq := eqF16
  have hg := guardF
  have hparts := fun W => parts64_calls x hx W
  have hok := fun W => ones_calls 5 (by decide) W
  change ∀ W, Calls _ _ #[.int .i64 5] _ fun e w' => e = .returned (.int .u64 31) ∧ _ at hok
  have ho11 := fun W => ones_calls 11 (by decide) W
  change ∀ W, Calls _ _ #[.int .i64 11] _ fun e w' => e = .returned (.int .u64 2047) ∧ _ at ho11
  have hoL := fun W => ones_calls 42 (by decide) W
  change ∀ W, Calls _ _ #[.int .i64 42] _ fun e w' => e = .returned (.int .u64 4398046511103) ∧ _ at hoL
  have hs2 : x / 9223372036854775808 < 2 := by omega
  rw [show x / 9223372036854775808 % 2 = x / 9223372036854775808 from Nat.mod_eq_of_lt hs2] at hparts
  obtain ⟨s, hs⟩ : ∃ s, x / 9223372036854775808 = s := ⟨_, rfl⟩
  obtain ⟨E, he'⟩ : ∃ e, x / 4503599627370496 % 2048 = e := ⟨_, rfl⟩
  obtain ⟨F, hf⟩ : ∃ f, x % 4503599627370496 = f := ⟨_, rfl⟩
  have hFl : F < 4503599627370496 := by omega
  have hEl : E < 2048 := by omega
  rw [hs, he', hf] at hparts
  rw [hs] at hs2
  obtain ⟨y1, hy1⟩ : ∃ y : Int, (E : Int) - 1023 = y := ⟨_, rfl⟩
  obtain ⟨ee, hee⟩ : ∃ y : Int, y1 + 15 = y := ⟨_, rfl⟩
  have hyw : IntKind.i64.wrap y1 = y1 := IntWalk.i64_in _ (by omega)
  have hye : IntKind.i64.wrap ee = ee := IntWalk.i64_in _ (by omega)
  have hw3 : IntKind.i64.wrap 31 = 31 := by decide
  have hw4 : IntKind.i64.wrap 2047 = 2047 := by decide
  have hV : narV f16 x = narV f16 x := rfl
  conv at hV => rhs; unfold narV
  simp only [show x / C64 = s from hs, show x / A64 % 2048 = E from he', show x % A64 = F from hf] at hV
  rw [he'] at h2
  rw [he'] at h3
  rw [if_neg h2, if_neg (by omega), if_pos (show 1023 < E + f16.bias ∧ E + f16.bias < 1023 + f16.B - 1 from h3)] at hV
  rw [hf] at h9
  have t0 : ((E : Int) == 2047) = false := by rw [beq_eq_false_iff_ne]; omega
  have t1 : ((E : Int) == 0) = false := by rw [beq_eq_false_iff_ne]; omega
  obtain ⟨e9, rfl⟩ : ∃ n : Nat, ee = n := ⟨ee.toNat, by omega⟩
  have t2 : (0 : Int) < (e9 : Int) := by omega
  have t3 : (e9 : Int) < 31 := by omega
  have he9 : E + 15 - 1023 = e9 := by omega
  change narV f16 x = (if F % 4398046511104 = 0 then some (s * 32768 + (E + 15 - 1023) * 1024 + F / 4398046511104) else none) at hV
  rw [if_neg h9] at hV
  have hand := and_mask (x := F) (n := 42) (by omega) 4398046511103 (by decide) (by decide)
  change bits .and .u64 (F : Int) 4398046511103 = ((F % 4398046511104 : Nat) : Int) at hand
  obtain ⟨rm, hrm⟩ : ∃ r, F % 4398046511104 = r := ⟨_, rfl⟩
  rw [hrm] at hand h9
  have t9 : ((rm : Int) != 0) = true := by rw [bne_iff_ne]; omega
  have HR := hid (show narS x 16 = 0 ∧ narB x 16 = false by
    have e1 : narS x 16 = (narV f16 x).getD 0 := rfl
    have e2 : narB x 16 = (narV f16 x).isSome := rfl
    rw [e1, e2, hV]
    exact ⟨rfl, rfl⟩)
  clear hV hs2 hrm h9 h2 hx hs he' hf hFl hEl
  clear he9 h3
  go_enter Tryz.func137, Tryz.ntmps137
  go_wp2
  refine wp_scope_jumps 0 (JumpF w) (fun _ _ => 0) rfl ?first ?pass
  case pass =>
    rintro ⟨tmps, defers⟩ w' ⟨h1, h2, hb⟩
    change defers = [] at h1
    change tmps.size = 119 at h2
    subst h1
    go_wp2
    rw [jump_retF]
    exact bodyPost_ret (v := .tuple #[.int .u64 0, .bool false]) (by simp [results, Tryz.results137, go_sem, h2]) rfl ⟨by rw [HR.out.1, HR.out.2] <;> rfl, hb⟩
  case first =>
    go_wp2_with fail
    refine (wide_calls _).mono ?_
    rintro e w1 ⟨rfl, hb1⟩
    have hW1 := hb1
    have hG2 := Cls.new w1 167 [.int .i64 52, .int .i64 11, .int .i64 64]
    have hW2 := hW1.alloc hW1.size (.cells #[.int .i64 52, .int .i64 11, .int .i64 64] 167)
    go_wp2_with fail
    generalize w1.alloc (.cells #[.int .i64 52, .int .i64 11, .int .i64 64] 167) = V3 at *
    refine (hof _).mono ?_
    rintro e w4 ⟨rfl, hb4⟩
    have hW4 := hW2.trans (hb4.mono hW2.size)
    have hG4 := hG2.below hb4
    have hG5 := hG4.alloc (.cells #[.int .i64 10, .int .i64 5, .int .i64 16] 167)
    have hF5 := Cls.new w4 167 [.int .i64 10, .int .i64 5, .int .i64 16]
    have hW5 := hW4.alloc hW4.size (.cells #[.int .i64 10, .int .i64 5, .int .i64 16] 167)
    have G_0 := hG5.cell 0 rfl
    have G_1 := hG5.cell 1 rfl
    have G_2 := hG5.cell 2 rfl
    have F_0 := hF5.cell 0 rfl
    have F_1 := hF5.cell 1 rfl
    have F_2 := hF5.cell 2 rfl
    go_wp2_with fail
    generalize w4.alloc (.cells #[.int .i64 10, .int .i64 5, .int .i64 16] 167) = V6 at *
    clear G_0 G_1 G_2
    clear F_0 F_1 F_2
    refine (hparts _).mono ?_
    rintro e w7 ⟨rfl, hb7⟩
    have hW7 := hW5.trans (hb7.mono hW5.size)
    have hG7 := hG5.below hb7
    have hF7 := hF5.below hb7
    have G_0 := hG7.cell 0 rfl
    have G_1 := hG7.cell 1 rfl
    have G_2 := hG7.cell 2 rfl
    have F_0 := hF7.cell 0 rfl
    have F_1 := hF7.cell 1 rfl
    have F_2 := hF7.cell 2 rfl
    go_upto_region 10 with fail
    go_cut [14] (fun v wx => v = .int .i64 e9 ∧ Cls wx (w1.heap.size) 167 [.int .i64 52, .int .i64 11, .int .i64 64] ∧ Cls wx (w4.heap.size) 167 [.int .i64 10, .int .i64 5, .int .i64 16] ∧ Below w.heap.size w wx)
    case first =>
      have hGG := hG7
      have hFF := hF7
      have hWW := hW7
      go_region_held3 (fun w' => w'.cell? ⟨w1.heap.size, 0, none⟩ = some (.int .i64 52) ∧ w'.cell? ⟨w1.heap.size, 1, none⟩ = some (.int .i64 11) ∧ w'.cell? ⟨w1.heap.size, 2, none⟩ = some (.int .i64 64) ∧ w'.cell? ⟨w4.heap.size, 0, none⟩ = some (.int .i64 10) ∧ w'.cell? ⟨w4.heap.size, 1, none⟩ = some (.int .i64 5) ∧ w'.cell? ⟨w4.heap.size, 2, none⟩ = some (.int .i64 16) ∧ Cls w' (w1.heap.size) 167 [.int .i64 52, .int .i64 11, .int .i64 64] ∧ Cls w' (w4.heap.size) 167 [.int .i64 10, .int .i64 5, .int .i64 16] ∧ Below w.heap.size w w')
        (first
          | (refine ⟨?_, ?_, ?_, ?_, ?_, ?_, ?_, ?_, ?_⟩ <;> first | assumption | exact cell_below (by assumption) hbX | exact Cls.below (by assumption) hbX | exact below_nextF (by assumption) hbX | exact Below.drew (by assumption))
          | go_keep
          | (go_split_ands
             refine ⟨?_, ?_, ?_, ?_, ?_, ?_, ?_, ?_, ?_⟩ <;> first | assumption | exact cell_below (by assumption) hbX | exact Cls.below (by assumption) hbX | exact below_nextF (by assumption) hbX | exact Below.drew (by assumption)))
        (first
          | (go_at_call_of 134 (Value.agg #[.int .i64 10, .int .i64 5, .int .i64 16]); refine (bias16_calls _).mono ?_; rintro e wa ⟨rfl, hbX⟩)
          | (go_at_call_of 134 (Value.agg #[.int .i64 52, .int .i64 11, .int .i64 64]); refine (bias64_calls _).mono ?_; rintro e wc ⟨rfl, hbX⟩))
      all_goals (
        go_wp2_with fail
        go_meet
        go_split_ands
        exact ⟨rfl, by assumption, by assumption, by assumption⟩)
    case rest =>
      clear G_0 G_1 G_2
      clear F_0 F_1 F_2
      obtain ⟨rfl, hG9, hF9, hW9⟩ := hcut
      have G_0 := hG9.cell 0 rfl
      have G_1 := hG9.cell 1 rfl
      have G_2 := hG9.cell 2 rfl
      have F_0 := hF9.cell 0 rfl
      have F_1 := hF9.cell 1 rfl
      have F_2 := hF9.cell 2 rfl
      go_wp2_with (first | (go_at_call_of 132 (Value.int IntKind.i64 11); refine (ho11 _).mono ?_; rintro e v8 ⟨rfl, rfl⟩) | (go_at_call_of 132 (Value.int IntKind.i64 5); refine (hok _).mono ?_; rintro e v7 ⟨rfl, rfl⟩) | (go_at_call_of 132 (Value.int IntKind.i64 42); refine (hoL _).mono ?_; rintro e v6 ⟨rfl, rfl⟩))
      go_step3
      go_wp2
      exact ⟨rfl, rfl, rfl, hW9⟩

end Go.Proofs.YtpjlepkdiaohiaaGreatDoor

/- Package float: Narrow, small numbers: walked. -/
namespace Go.Proofs.YtpjlepkdiaohiaaGreatDoor
open Go.RowKit Go.Shelf
attribute [local go_sem] Oper.semAt_some

theorem or_52 {F : Nat} (h : F < 4503599627370496) : bits .or .u64 (F : Int) 4503599627370496 = ((F + 4503599627370496 : Nat) : Int) := by
  have e1 := u64_or_nat F 4503599627370496 (by omega) (by omega)
  have e2 : F ||| 4503599627370496 = F + 4503599627370496 := by
    have e3 := Nat.shiftLeft_add_eq_or_of_lt (i := 52) (b := F) (by omega) 1
    rw [Nat.shiftLeft_eq] at e3
    rw [Nat.or_comm, Nat.add_comm]
    exact e3.symm
  rw [e2] at e1
  exact e1

set_option maxRecDepth 100000 in
set_option maxHeartbeats 4000000 in
theorem narrow16_sub_ok (x : Nat) (hx : x < 18446744073709551616) (h2 : x / 4503599627370496 % 2048 ≠ 2047) (h4 : 0 < x / 4503599627370496 % 2048 ∧ x / 4503599627370496 % 2048 + 15 ≤ 1023 ∧ 1023 < x / 4503599627370496 % 2048 + 15 + 10) (h9 : (x % 4503599627370496 + A64) % (4398046511104 * 2 ^ (1024 - 15 - x / 4503599627370496 % 2048)) = 0) (w : World) :
    Calls Tryz.prog 137 #[.int .u64 x, .int .i64 16] w fun e w' => e = .returned (.tuple #[.int .u64 (narS x 16 : Nat), .bool (narB x 16)]) ∧ Below w.heap.size w w' := by
  have hof := fun W => fof_calls 16 W
  change ∀ W, Calls _ _ _ _ fun e w' => e = .returned (.tuple #[.agg #[.int .i64 10, .int .i64 5, .int .i64 16], .bool true]) ∧ _ at hof
  have heq := eqF16
  have hg := guardF
  have hparts := fun W => parts64_calls x hx W
  have hok := fun W => ones_calls 5 (by decide) W
  change ∀ W, Calls _ _ #[.int .i64 5] _ fun e w' => e = .returned (.int .u64 31) ∧ _ at hok
  have ho11 := fun W => ones_calls 11 (by decide) W
  change ∀ W, Calls _ _ #[.int .i64 11] _ fun e w' => e = .returned (.int .u64 2047) ∧ _ at ho11
  have hoL := fun W => ones_calls 42 (by decide) W
  change ∀ W, Calls _ _ #[.int .i64 42] _ fun e w' => e = .returned (.int .u64 4398046511103) ∧ _ at hoL
  have hs2 : x / 9223372036854775808 < 2 := by omega
  rw [show x / 9223372036854775808 % 2 = x / 9223372036854775808 from Nat.mod_eq_of_lt hs2] at hparts
  obtain ⟨s, hs⟩ : ∃ s, x / 9223372036854775808 = s := ⟨_, rfl⟩
  obtain ⟨E, he'⟩ : ∃ e, x / 4503599627370496 % 2048 = e := ⟨_, rfl⟩
  obtain ⟨F, hf⟩ : ∃ f, x % 4503599627370496 = f := ⟨_, rfl⟩
  have hFl : F < 4503599627370496 := by omega
  have hEl : E < 2048 := by omega
  rw [hs, he', hf] at hparts
  rw [hs] at hs2
  obtain ⟨y1, hy1⟩ : ∃ y : Int, (E : Int) - 1023 = y := ⟨_, rfl⟩
  obtain ⟨ee, hee⟩ : ∃ y : Int, y1 + 15 = y := ⟨_, rfl⟩
  have hyw : IntKind.i64.wrap y1 = y1 := IntWalk.i64_in _ (by omega)
  have hye : IntKind.i64.wrap ee = ee := IntWalk.i64_in _ (by omega)
  have hw3 : IntKind.i64.wrap 31 = 31 := by decide
  have hw4 : IntKind.i64.wrap 2047 = 2047 := by decide
  have hV : narV f16 x = narV f16 x := rfl
  conv at hV => rhs; unfold narV
  simp only [show x / C64 = s from hs, show x / A64 % 2048 = E from he', show x % A64 = F from hf] at hV
  rw [he'] at h2 h4 h9
  rw [hf] at h9
  rw [if_neg h2, if_neg (by omega), if_neg (show ¬ (1023 < E + f16.bias ∧ E + f16.bias < 1023 + f16.B - 1) from fun h => by have : f16.bias = 15 := rfl; omega), if_pos (show 0 < E ∧ E + f16.bias ≤ 1023 ∧ 1023 < E + f16.bias + f16.p from h4)] at hV
  change narV f16 x = (if (F + A64) % (4398046511104 * 2 ^ (1024 - 15 - E)) = 0 then some (s * 32768 + (F + A64) / (4398046511104 * 2 ^ (1024 - 15 - E))) else none) at hV
  obtain ⟨lo, hlo⟩ : ∃ lo, 42 + (1024 - 15 - E) = lo := ⟨_, rfl⟩
  have hpow : 4398046511104 * 2 ^ (1024 - 15 - E) = 2 ^ lo := by rw [← hlo, Nat.pow_add]
  rw [hpow] at hV h9
  rw [if_pos h9] at hV
  obtain ⟨fr, hfr⟩ : ∃ v, F + 4503599627370496 = v := ⟨_, rfl⟩
  rw [show F + A64 = fr from hfr] at hV h9
  have hl63 : lo ≤ 63 := by omega
  have hoLo := fun W => ones_calls lo hl63 W
  have hand := and_mask (x := fr) (n := lo) (by omega) ((2 ^ lo - 1 : Nat) : Int) rfl hl63
  obtain ⟨mk', hmk'⟩ : ∃ v, 2 ^ lo - 1 = v := ⟨_, rfl⟩
  rw [hmk'] at hoLo hand
  obtain ⟨rm, hrm⟩ : ∃ r, fr % 2 ^ lo = r := ⟨_, rfl⟩
  rw [hrm] at hand h9
  have hor2 := or_52 hFl
  rw [hfr] at hor2
  have t0 : ((E : Int) == 2047) = false := by rw [beq_eq_false_iff_ne]; omega
  have t1 : ((E : Int) == 0) = false := by rw [beq_eq_false_iff_ne]; omega
  have t2 : (0 : Int) < (E : Int) := by omega
  have t3 : ee ≤ 0 := by omega
  have t4 : -10 < ee := by omega
  have t5 : ¬ 0 < ee := by omega
  have hlo1 : 43 - ee = (lo : Int) := by omega
  have hlow : IntKind.i64.wrap (lo : Int) = (lo : Int) := IntWalk.i64_in _ (by omega)
  have hlo64 : (lo : Int) ≤ 64 := by omega
  have hw52 : IntKind.u64.wrap 4503599627370496 = 4503599627370496 := by decide
  have hwsh : IntKind.i64.wrap 43 = 43 := by decide
  have hwp : IntKind.i64.wrap (-10) = -10 := by decide
  obtain ⟨PL, hPL⟩ : ∃ v : Nat, 2 ^ lo = v := ⟨_, rfl⟩
  have hPLi : (2 : Int) ^ lo = (PL : Int) := by rw [pow_cast, hPL]
  have hPL2 : 8796093022208 ≤ PL := by rw [← hPL]; exact Nat.le_trans (by decide) (pow_le (show 43 ≤ lo by omega))
  have t9 : ((rm : Int) != 0) = false := by rw [h9]; rfl
  obtain ⟨q, hq⟩ : ∃ q, fr / PL = q := ⟨_, rfl⟩
  have hqi : (fr : Int) / (PL : Int) = (q : Int) := by rw [← hq]; exact (Int.natCast_ediv fr PL).symm
  have hql : q < 1024 := by
    rw [← hq]
    refine (Nat.div_lt_iff_lt_mul (by omega)).2 (Nat.lt_of_lt_of_le (show fr < 1024 * 8796093022208 by omega) (Nat.mul_le_mul_left _ hPL2))
  have hj := fun W => joined16_calls s 0 q hs2 (by decide) hql W
  change ∀ W, Calls _ _ #[_, _, .int .i64 0, _] _ _ at hj
  simp only [Nat.zero_mul, Nat.add_zero] at hj
  obtain ⟨v, hv⟩ : ∃ v, s * 32768 + q = v := ⟨_, rfl⟩
  rw [hv] at hj
  have HR := hid (show narS x 16 = v ∧ narB x 16 = true by
    have e1 : narS x 16 = (narV f16 x).getD 0 := rfl
    have e2 : narB x 16 = (narV f16 x).isSome := rfl
    rw [e1, e2, hV, Option.getD_some, Option.isSome_some, hPL, hq]
    exact ⟨hv, rfl⟩)
  clear hV hv hql hq hs2 hrm h9 h2 hx hs he' hf hFl hEl hPL hPL2 hmk' hfr hlo hpow h4 hl63
  go_enter Tryz.func137, Tryz.ntmps137
  go_wp2
  refine wp_scope_jumps 0 (fun _ _ => False) (fun _ _ => 0) rfl ?first (fun _ _ h => h.elim)
  case first =>
    go_wp2_with fail
    refine (wide_calls _).mono ?_
    rintro e w1 ⟨rfl, hb1⟩
    have hW1 := hb1
    have hG2 := Cls.new w1 167 [.int .i64 52, .int .i64 11, .int .i64 64]
    have hW2 := hW1.alloc hW1.size (.cells #[.int .i64 52, .int .i64 11, .int .i64 64] 167)
    go_wp2_with fail
    generalize w1.alloc (.cells #[.int .i64 52, .int .i64 11, .int .i64 64] 167) = V3 at *
    refine (hof _).mono ?_
    rintro e w4 ⟨rfl, hb4⟩
    have hW4 := hW2.trans (hb4.mono hW2.size)
    have hG4 := hG2.below hb4
    have hG5 := hG4.alloc (.cells #[.int .i64 10, .int .i64 5, .int .i64 16] 167)
    have hF5 := Cls.new w4 167 [.int .i64 10, .int .i64 5, .int .i64 16]
    have hW5 := hW4.alloc hW4.size (.cells #[.int .i64 10, .int .i64 5, .int .i64 16] 167)
    have G_0 := hG5.cell 0 rfl
    have G_1 := hG5.cell 1 rfl
    have G_2 := hG5.cell 2 rfl
    have F_0 := hF5.cell 0 rfl
    have F_1 := hF5.cell 1 rfl
    have F_2 := hF5.cell 2 rfl
    go_wp2_with fail
    generalize w4.alloc (.cells #[.int .i64 10, .int .i64 5, .int .i64 16] 167) = V6 at *
    clear G_0 G_1 G_2
    clear F_0 F_1 F_2
    refine (hparts _).mono ?_
    rintro e w7 ⟨rfl, hb7⟩
    have hW7 := hW5.trans (hb7.mono hW5.size)
    have hG7 := hG5.below hb7
    have hF7 := hF5.below hb7
    have G_0 := hG7.cell 0 rfl
    have G_1 := hG7.cell 1 rfl
    have G_2 := hG7.cell 2 rfl
    have F_0 := hF7.cell 0 rfl
    have F_1 := hF7.cell 1 rfl
    have F_2 := hF7.cell 2 rfl
    go_upto_region 10 with fail
    go_cut [14] (fun v wx => v = .int .i64 ee ∧ Cls wx (w1.heap.size) 167 [.int .i64 52, .int .i64 11, .int .i64 64] ∧ Cls wx (w4.heap.size) 167 [.int .i64 10, .int .i64 5, .int .i64 16] ∧ Below w.heap.size w wx)
    case first =>
      have hGG := hG7
      have hFF := hF7
      have hWW := hW7
      go_region_held3 (fun w' => w'.cell? ⟨w1.heap.size, 0, none⟩ = some (.int .i64 52) ∧ w'.cell? ⟨w1.heap.size, 1, none⟩ = some (.int .i64 11) ∧ w'.cell? ⟨w1.heap.size, 2, none⟩ = some (.int .i64 64) ∧ w'.cell? ⟨w4.heap.size, 0, none⟩ = some (.int .i64 10) ∧ w'.cell? ⟨w4.heap.size, 1, none⟩ = some (.int .i64 5) ∧ w'.cell? ⟨w4.heap.size, 2, none⟩ = some (.int .i64 16) ∧ Cls w' (w1.heap.size) 167 [.int .i64 52, .int .i64 11, .int .i64 64] ∧ Cls w' (w4.heap.size) 167 [.int .i64 10, .int .i64 5, .int .i64 16] ∧ Below w.heap.size w w')
        (first
          | (refine ⟨?_, ?_, ?_, ?_, ?_, ?_, ?_, ?_, ?_⟩ <;> first | assumption | exact cell_below (by assumption) hbX | exact Cls.below (by assumption) hbX | exact below_nextF (by assumption) hbX | exact Below.drew (by assumption))
          | go_keep
          | (go_split_ands
             refine ⟨?_, ?_, ?_, ?_, ?_, ?_, ?_, ?_, ?_⟩ <;> first | assumption | exact cell_below (by assumption) hbX | exact Cls.below (by assumption) hbX | exact below_nextF (by assumption) hbX | exact Below.drew (by assumption)))
        (first
          | (go_at_call_of 134 (Value.agg #[.int .i64 10, .int .i64 5, .int .i64 16]); refine (bias16_calls _).mono ?_; rintro e wa ⟨rfl, hbX⟩)
          | (go_at_call_of 134 (Value.agg #[.int .i64 52, .int .i64 11, .int .i64 64]); refine (bias64_calls _).mono ?_; rintro e wc ⟨rfl, hbX⟩))
      all_goals (
        go_wp2_with fail
        go_meet
        go_split_ands
        exact ⟨rfl, by assumption, by assumption, by assumption⟩)
    case rest =>
      clear G_0 G_1 G_2
      clear F_0 F_1 F_2
      obtain ⟨rfl, hG9, hF9, hW9⟩ := hcut
      have G_0 := hG9.cell 0 rfl
      have G_1 := hG9.cell 1 rfl
      have G_2 := hG9.cell 2 rfl
      have F_0 := hF9.cell 0 rfl
      have F_1 := hF9.cell 1 rfl
      have F_2 := hF9.cell 2 rfl
      go_wp2_with (first | (go_at_call_of 132 (Value.int IntKind.i64 11); refine (ho11 _).mono ?_; rintro e v8 ⟨rfl, rfl⟩) | (go_at_call_of 132 (Value.int IntKind.i64 5); refine (hok _).mono ?_; rintro e v7 ⟨rfl, rfl⟩))
      go_quiet (fail)
      go_wp2_with fail
      have hFd : Cls (wc.drewN nq) (w4.heap.size) 167 [.int .i64 10, .int .i64 5, .int .i64 16] := hF9
      have hWd : Below w.heap.size w (wc.drewN nq) := belowN hW9 nq
      clear G_0 G_1 G_2
      clear F_0 F_1 F_2
      generalize wc.drewN nq = Zd at *
      have F_0 := hFd.cell 0 rfl
      have F_1 := hFd.cell 1 rfl
      have F_2 := hFd.cell 2 rfl
      refine (hoLo _).mono ?_
      rintro e v5 ⟨rfl, rfl⟩
      go_wp2_with fail
      go_region_held3 (fun w' => w'.cell? ⟨w4.heap.size, 0, none⟩ = some (.int .i64 10) ∧ w'.cell? ⟨w4.heap.size, 1, none⟩ = some (.int .i64 5) ∧ w'.cell? ⟨w4.heap.size, 2, none⟩ = some (.int .i64 16) ∧ Below w.heap.size w w')
        (first
          | (refine ⟨?_, ?_, ?_, ?_⟩ <;> first | assumption | exact cell_below (by assumption) hbX | exact below_nextF (by assumption) hbX | exact Below.drew (by assumption))
          | go_keep
          | (go_split_ands
             refine ⟨?_, ?_, ?_, ?_⟩ <;> first | assumption | exact cell_below (by assumption) hbX | exact below_nextF (by assumption) hbX | exact Below.drew (by assumption)))
        (first
          | (go_at_call 133; refine (hj _).mono ?_; rintro e wr ⟨rfl, hbX⟩))
      all_goals (
        go_wp2
        rw [jump_retF]
        go_ret2
        go_split_ands
        exact ⟨by rw [HR.out.1, HR.out.2] <;> rfl, by assumption⟩)

set_option maxRecDepth 100000 in
set_option maxHeartbeats 4000000 in
theorem narrow16_sub_no (x : Nat) (hx : x < 18446744073709551616) (h2 : x / 4503599627370496 % 2048 ≠ 2047) (h4 : 0 < x / 4503599627370496 % 2048 ∧ x / 4503599627370496 % 2048 + 15 ≤ 1023 ∧ 1023 < x / 4503599627370496 % 2048 + 15 + 10) (h9 : (x % 4503599627370496 + A64) % (4398046511104 * 2 ^ (1024 - 15 - x / 4503599627370496 % 2048)) ≠ 0) (w : World) :
    Calls Tryz.prog 137 #[.int .u64 x, .int .i64 16] w fun e w' => e = .returned (.tuple #[.int .u64 (narS x 16 : Nat), .bool (narB x 16)]) ∧ Below w.heap.size w w' := by
  have hof := fun W => fof_calls 16 W
  change ∀ W, Calls _ _ _ _ fun e w' => e = .returned (.tuple #[.agg #[.int .i64 10, .int .i64 5, .int .i64 16], .bool true]) ∧ _ at hof
  have heq := eqF16
  have hg := guardF
  have hparts := fun W => parts64_calls x hx W
  have hok := fun W => ones_calls 5 (by decide) W
  change ∀ W, Calls _ _ #[.int .i64 5] _ fun e w' => e = .returned (.int .u64 31) ∧ _ at hok
  have ho11 := fun W => ones_calls 11 (by decide) W
  change ∀ W, Calls _ _ #[.int .i64 11] _ fun e w' => e = .returned (.int .u64 2047) ∧ _ at ho11
  have hoL := fun W => ones_calls 42 (by decide) W
  change ∀ W, Calls _ _ #[.int .i64 42] _ fun e w' => e = .returned (.int .u64 4398046511103) ∧ _ at hoL
  have hs2 : x / 9223372036854775808 < 2 := by omega
  rw [show x / 9223372036854775808 % 2 = x / 9223372036854775808 from Nat.mod_eq_of_lt hs2] at hparts
  obtain ⟨s, hs⟩ : ∃ s, x / 9223372036854775808 = s := ⟨_, rfl⟩
  obtain ⟨E, he'⟩ : ∃ e, x / 4503599627370496 % 2048 = e := ⟨_, rfl⟩
  obtain ⟨F, hf⟩ : ∃ f, x % 4503599627370496 = f := ⟨_, rfl⟩
  have hFl : F < 4503599627370496 := by omega
  have hEl : E < 2048 := by omega
  rw [hs, he', hf] at hparts
  rw [hs] at hs2
  obtain ⟨y1, hy1⟩ : ∃ y : Int, (E : Int) - 1023 = y := ⟨_, rfl⟩
  obtain ⟨ee, hee⟩ : ∃ y : Int, y1 + 15 = y := ⟨_, rfl⟩
  have hyw : IntKind.i64.wrap y1 = y1 := IntWalk.i64_in _ (by omega)
  have hye : IntKind.i64.wrap ee = ee := IntWalk.i64_in _ (by omega)
  have hw3 : IntKind.i64.wrap 31 = 31 := by decide
  have hw4 : IntKind.i64.wrap 2047 = 2047 := by decide
  have hV : narV f16 x = narV f16 x := rfl
  conv at hV => rhs; unfold narV
  simp only [show x / C64 = s from hs, show x / A64 % 2048 = E from he', show x % A64 = F from hf] at hV
  rw [he'] at h2 h4 h9
  rw [hf] at h9
  rw [if_neg h2, if_neg (by omega), if_neg (show ¬ (1023 < E + f16.bias ∧ E + f16.bias < 1023 + f16.B - 1) from fun h => by have : f16.bias = 15 := rfl; omega), if_pos (show 0 < E ∧ E + f16.bias ≤ 1023 ∧ 1023 < E + f16.bias + f16.p from h4)] at hV
  change narV f16 x = (if (F + A64) % (4398046511104 * 2 ^ (1024 - 15 - E)) = 0 then some (s * 32768 + (F + A64) / (4398046511104 * 2 ^ (1024 - 15 - E))) else none) at hV
  obtain ⟨lo, hlo⟩ : ∃ lo, 42 + (1024 - 15 - E) = lo := ⟨_, rfl⟩
  have hpow : 4398046511104 * 2 ^ (1024 - 15 - E) = 2 ^ lo := by rw [← hlo, Nat.pow_add]
  rw [hpow] at hV h9
  rw [if_neg h9] at hV
  obtain ⟨fr, hfr⟩ : ∃ v, F + 4503599627370496 = v := ⟨_, rfl⟩
  rw [show F + A64 = fr from hfr] at h9
  have hl63 : lo ≤ 63 := by omega
  have hoLo := fun W => ones_calls lo hl63 W
  have hand := and_mask (x := fr) (n := lo) (by omega) ((2 ^ lo - 1 : Nat) : Int) rfl hl63
  obtain ⟨mk', hmk'⟩ : ∃ v, 2 ^ lo - 1 = v := ⟨_, rfl⟩
  rw [hmk'] at hoLo hand
  obtain ⟨rm, hrm⟩ : ∃ r, fr % 2 ^ lo = r := ⟨_, rfl⟩
  rw [hrm] at hand h9
  have hor2 := or_52 hFl
  rw [hfr] at hor2
  have t0 : ((E : Int) == 2047) = false := by rw [beq_eq_false_iff_ne]; omega
  have t1 : ((E : Int) == 0) = false := by rw [beq_eq_false_iff_ne]; omega
  have t2 : (0 : Int) < (E : Int) := by omega
  have t3 : ee ≤ 0 := by omega
  have t4 : -10 < ee := by omega
  have t5 : ¬ 0 < ee := by omega
  have hlo1 : 43 - ee = (lo : Int) := by omega
  have hlow : IntKind.i64.wrap (lo : Int) = (lo : Int) := IntWalk.i64_in _ (by omega)
  have hlo64 : (lo : Int) ≤ 64 := by omega
  have hw52 : IntKind.u64.wrap 4503599627370496 = 4503599627370496 := by decide
  have hwsh : IntKind.i64.wrap 43 = 43 := by decide
  have hwp : IntKind.i64.wrap (-10) = -10 := by decide
  obtain ⟨PL, hPL⟩ : ∃ v : Nat, 2 ^ lo = v := ⟨_, rfl⟩
  have hPLi : (2 : Int) ^ lo = (PL : Int) := by rw [pow_cast, hPL]
  have hPL2 : 8796093022208 ≤ PL := by rw [← hPL]; exact Nat.le_trans (by decide) (pow_le (show 43 ≤ lo by omega))
  have t9 : ((rm : Int) != 0) = true := by rw [bne_iff_ne]; omega
  have HR := hid (show narS x 16 = 0 ∧ narB x 16 = false by
    have e1 : narS x 16 = (narV f16 x).getD 0 := rfl
    have e2 : narB x 16 = (narV f16 x).isSome := rfl
    rw [e1, e2, hV]
    exact ⟨rfl, rfl⟩)
  clear hV hs2 hrm h9 h2 hx hs he' hf hFl hEl hPL hPL2 hmk' hfr hlo hpow h4 hl63
  go_enter Tryz.func137, Tryz.ntmps137
  go_wp2
  refine wp_scope_jumps 0 (JumpF w) (fun _ _ => 0) rfl ?first ?pass
  case pass =>
    rintro ⟨tmps, defers⟩ w' ⟨h1, h2, hb⟩
    change defers = [] at h1
    change tmps.size = 119 at h2
    subst h1
    go_wp2
    rw [jump_retF]
    exact bodyPost_ret (v := .tuple #[.int .u64 0, .bool false]) (by simp [results, Tryz.results137, go_sem, h2]) rfl ⟨by rw [HR.out.1, HR.out.2] <;> rfl, hb⟩
  case first =>
    go_wp2_with fail
    refine (wide_calls _).mono ?_
    rintro e w1 ⟨rfl, hb1⟩
    have hW1 := hb1
    have hG2 := Cls.new w1 167 [.int .i64 52, .int .i64 11, .int .i64 64]
    have hW2 := hW1.alloc hW1.size (.cells #[.int .i64 52, .int .i64 11, .int .i64 64] 167)
    go_wp2_with fail
    generalize w1.alloc (.cells #[.int .i64 52, .int .i64 11, .int .i64 64] 167) = V3 at *
    refine (hof _).mono ?_
    rintro e w4 ⟨rfl, hb4⟩
    have hW4 := hW2.trans (hb4.mono hW2.size)
    have hG4 := hG2.below hb4
    have hG5 := hG4.alloc (.cells #[.int .i64 10, .int .i64 5, .int .i64 16] 167)
    have hF5 := Cls.new w4 167 [.int .i64 10, .int .i64 5, .int .i64 16]
    have hW5 := hW4.alloc hW4.size (.cells #[.int .i64 10, .int .i64 5, .int .i64 16] 167)
    have G_0 := hG5.cell 0 rfl
    have G_1 := hG5.cell 1 rfl
    have G_2 := hG5.cell 2 rfl
    have F_0 := hF5.cell 0 rfl
    have F_1 := hF5.cell 1 rfl
    have F_2 := hF5.cell 2 rfl
    go_wp2_with fail
    generalize w4.alloc (.cells #[.int .i64 10, .int .i64 5, .int .i64 16] 167) = V6 at *
    clear G_0 G_1 G_2
    clear F_0 F_1 F_2
    refine (hparts _).mono ?_
    rintro e w7 ⟨rfl, hb7⟩
    have hW7 := hW5.trans (hb7.mono hW5.size)
    have hG7 := hG5.below hb7
    have hF7 := hF5.below hb7
    have G_0 := hG7.cell 0 rfl
    have G_1 := hG7.cell 1 rfl
    have G_2 := hG7.cell 2 rfl
    have F_0 := hF7.cell 0 rfl
    have F_1 := hF7.cell 1 rfl
    have F_2 := hF7.cell 2 rfl
    go_upto_region 10 with fail
    go_cut [14] (fun v wx => v = .int .i64 ee ∧ Cls wx (w1.heap.size) 167 [.int .i64 52, .int .i64 11, .int .i64 64] ∧ Cls wx (w4.heap.size) 167 [.int .i64 10, .int .i64 5, .int .i64 16] ∧ Below w.heap.size w wx)
    case first =>
      have hGG := hG7
      have hFF := hF7
      have hWW := hW7
      go_region_held3 (fun w' => w'.cell? ⟨w1.heap.size, 0, none⟩ = some (.int .i64 52) ∧ w'.cell? ⟨w1.heap.size, 1, none⟩ = some (.int .i64 11) ∧ w'.cell? ⟨w1.heap.size, 2, none⟩ = some (.int .i64 64) ∧ w'.cell? ⟨w4.heap.size, 0, none⟩ = some (.int .i64 10) ∧ w'.cell? ⟨w4.heap.size, 1, none⟩ = some (.int .i64 5) ∧ w'.cell? ⟨w4.heap.size, 2, none⟩ = some (.int .i64 16) ∧ Cls w' (w1.heap.size) 167 [.int .i64 52, .int .i64 11, .int .i64 64] ∧ Cls w' (w4.heap.size) 167 [.int .i64 10, .int .i64 5, .int .i64 16] ∧ Below w.heap.size w w')
        (first
          | (refine ⟨?_, ?_, ?_, ?_, ?_, ?_, ?_, ?_, ?_⟩ <;> first | assumption | exact cell_below (by assumption) hbX | exact Cls.below (by assumption) hbX | exact below_nextF (by assumption) hbX | exact Below.drew (by assumption))
          | go_keep
          | (go_split_ands
             refine ⟨?_, ?_, ?_, ?_, ?_, ?_, ?_, ?_, ?_⟩ <;> first | assumption | exact cell_below (by assumption) hbX | exact Cls.below (by assumption) hbX | exact below_nextF (by assumption) hbX | exact Below.drew (by assumption)))
        (first
          | (go_at_call_of 134 (Value.agg #[.int .i64 10, .int .i64 5, .int .i64 16]); refine (bias16_calls _).mono ?_; rintro e wa ⟨rfl, hbX⟩)
          | (go_at_call_of 134 (Value.agg #[.int .i64 52, .int .i64 11, .int .i64 64]); refine (bias64_calls _).mono ?_; rintro e wc ⟨rfl, hbX⟩))
      all_goals (
        go_wp2_with fail
        go_meet
        go_split_ands
        exact ⟨rfl, by assumption, by assumption, by assumption⟩)
    case rest =>
      clear G_0 G_1 G_2
      clear F_0 F_1 F_2
      obtain ⟨rfl, hG9, hF9, hW9⟩ := hcut
      have G_0 := hG9.cell 0 rfl
      have G_1 := hG9.cell 1 rfl
      have G_2 := hG9.cell 2 rfl
      have F_0 := hF9.cell 0 rfl
      have F_1 := hF9.cell 1 rfl
      have F_2 := hF9.cell 2 rfl
      go_wp2_with (first | (go_at_call_of 132 (Value.int IntKind.i64 11); refine (ho11 _).mono ?_; rintro e v8 ⟨rfl, rfl⟩) | (go_at_call_of 132 (Value.int IntKind.i64 5); refine (hok _).mono ?_; rintro e v7 ⟨rfl, rfl⟩))
      go_quiet (fail)
      go_wp2_with fail
      have hFd : Cls (wc.drewN nq) (w4.heap.size) 167 [.int .i64 10, .int .i64 5, .int .i64 16] := hF9
      have hWd : Below w.heap.size w (wc.drewN nq) := belowN hW9 nq
      clear G_0 G_1 G_2
      clear F_0 F_1 F_2
      generalize wc.drewN nq = Zd at *
      have F_0 := hFd.cell 0 rfl
      have F_1 := hFd.cell 1 rfl
      have F_2 := hFd.cell 2 rfl
      refine (hoLo _).mono ?_
      rintro e v5 ⟨rfl, rfl⟩
      go_wp2_with fail
      go_step3
      go_wp2
      exact ⟨rfl, rfl, rfl, hWd⟩
end Go.Proofs.YtpjlepkdiaohiaaGreatDoor

/- Package float: Narrow to 32: walked. -/
namespace Go.Proofs.YtpjlepkdiaohiaaGreatDoor
open Go.RowKit Go.Shelf
attribute [local go_sem] Oper.semAt_some

set_option maxRecDepth 100000 in
set_option maxHeartbeats 4000000 in
theorem narrow32_far (x : Nat) (hx : x < 18446744073709551616) (hno : narV f32 x = none) (h2 : x / 4503599627370496 % 2048 ≠ 2047) (h3 : ¬ (x / 4503599627370496 % 2048 = 0 ∧ x % 4503599627370496 = 0))
    (h4 : ¬ (1023 < x / 4503599627370496 % 2048 + 127 ∧ x / 4503599627370496 % 2048 + 127 < 1023 + 256 - 1)) (h5 : ¬ (0 < x / 4503599627370496 % 2048 ∧ x / 4503599627370496 % 2048 + 127 ≤ 1023 ∧ 1023 < x / 4503599627370496 % 2048 + 127 + 23)) (w : World) :
    Calls Tryz.prog 137 #[.int .u64 x, .int .i64 32] w fun e w' => e = .returned (.tuple #[.int .u64 (narS x 32 : Nat), .bool (narB x 32)]) ∧ Below w.heap.size w w' := by
  have HR := hid (show narS x 32 = 0 ∧ narB x 32 = false by
    have e1 : narS x 32 = (narV f32 x).getD 0 := rfl
    have e2 : narB x 32 = (narV f32 x).isSome := rfl
    rw [e1, e2, hno]
    exact ⟨rfl, rfl⟩)
  have hof := fun W => fof_calls 32 W
  change ∀ W, Calls _ _ _ _ fun e w' => e = .returned (.tuple #[.agg #[.int .i64 23, .int .i64 8, .int .i64 32], .bool true]) ∧ _ at hof
  have heq := eqF32
  have hg := guardF
  have hparts := fun W => parts64_calls x hx W
  have hok := fun W => ones_calls 8 (by decide) W
  change ∀ W, Calls _ _ #[.int .i64 8] _ fun e w' => e = .returned (.int .u64 255) ∧ _ at hok
  have ho11 := fun W => ones_calls 11 (by decide) W
  change ∀ W, Calls _ _ #[.int .i64 11] _ fun e w' => e = .returned (.int .u64 2047) ∧ _ at ho11
  have hoL := fun W => ones_calls 29 (by decide) W
  change ∀ W, Calls _ _ #[.int .i64 29] _ fun e w' => e = .returned (.int .u64 536870911) ∧ _ at hoL
  have hs2 : x / 9223372036854775808 < 2 := by omega
  rw [show x / 9223372036854775808 % 2 = x / 9223372036854775808 from Nat.mod_eq_of_lt hs2] at hparts
  obtain ⟨s, hs⟩ : ∃ s, x / 9223372036854775808 = s := ⟨_, rfl⟩
  obtain ⟨E, he'⟩ : ∃ e, x / 4503599627370496 % 2048 = e := ⟨_, rfl⟩
  obtain ⟨F, hf⟩ : ∃ f, x % 4503599627370496 = f := ⟨_, rfl⟩
  have hFl : F < 4503599627370496 := by omega
  have hEl : E < 2048 := by omega
  rw [hs, he', hf] at hparts
  rw [hs] at hs2
  obtain ⟨y1, hy1⟩ : ∃ y : Int, (E : Int) - 1023 = y := ⟨_, rfl⟩
  obtain ⟨ee, hee⟩ : ∃ y : Int, y1 + 127 = y := ⟨_, rfl⟩
  have hyw : IntKind.i64.wrap y1 = y1 := IntWalk.i64_in _ (by omega)
  have hye : IntKind.i64.wrap ee = ee := IntWalk.i64_in _ (by omega)
  have hw3 : IntKind.i64.wrap 255 = 255 := by decide
  have hw4 : IntKind.i64.wrap 2047 = 2047 := by decide
  rw [he'] at h2 h3 h4 h5
  rw [hf] at h3
  have hne : ((E : Int) == 2047) = false := by rw [beq_eq_false_iff_ne]; omega
  have hz : (((E : Int) == 0) = false ∧ ((0 < ee ∧ ¬ ee < 255) ∨ (¬ 0 < ee ∧ (0 : Int) < (E : Int) ∧ ee ≤ 0 ∧ ¬ -23 < ee))) ∨ (E = 0 ∧ ((F : Int) == 0) = false ∧ ¬ 0 < ee) := by
    by_cases h0 : E = 0
    · exact .inr ⟨h0, by rw [beq_eq_false_iff_ne]; omega, by omega⟩
    · exact .inl ⟨by rw [beq_eq_false_iff_ne]; omega, by omega⟩
  clear h2 h3 h4 h5 hno hx hs he' hf hFl hEl
  go_enter Tryz.func137, Tryz.ntmps137
  go_wp2
  refine wp_scope_jumps 0 (JumpF w) (fun _ _ => 0) rfl ?first ?pass
  case pass =>
    rintro ⟨tmps, defers⟩ w' ⟨h1, h2, hb⟩
    change defers = [] at h1
    change tmps.size = 119 at h2
    subst h1
    go_wp2
    rw [jump_retF]
    exact bodyPost_ret (v := .tuple #[.int .u64 0, .bool false]) (by simp [results, Tryz.results137, go_sem, h2]) rfl ⟨by rw [HR.out.1, HR.out.2] <;> rfl, hb⟩
  case first =>
    go_wp2_with fail
    refine (wide_calls _).mono ?_
    rintro e w1 ⟨rfl, hb1⟩
    have hW1 := hb1
    have hG2 := Cls.new w1 167 [.int .i64 52, .int .i64 11, .int .i64 64]
    have hW2 := hW1.alloc hW1.size (.cells #[.int .i64 52, .int .i64 11, .int .i64 64] 167)
    go_wp2_with fail
    generalize w1.alloc (.cells #[.int .i64 52, .int .i64 11, .int .i64 64] 167) = V3 at *
    refine (hof _).mono ?_
    rintro e w4 ⟨rfl, hb4⟩
    have hW4 := hW2.trans (hb4.mono hW2.size)
    have hG4 := hG2.below hb4
    have hG5 := hG4.alloc (.cells #[.int .i64 23, .int .i64 8, .int .i64 32] 167)
    have hF5 := Cls.new w4 167 [.int .i64 23, .int .i64 8, .int .i64 32]
    have hW5 := hW4.alloc hW4.size (.cells #[.int .i64 23, .int .i64 8, .int .i64 32] 167)
    have G_0 := hG5.cell 0 rfl
    have G_1 := hG5.cell 1 rfl
    have G_2 := hG5.cell 2 rfl
    have F_0 := hF5.cell 0 rfl
    have F_1 := hF5.cell 1 rfl
    have F_2 := hF5.cell 2 rfl
    go_wp2_with fail
    generalize w4.alloc (.cells #[.int .i64 23, .int .i64 8, .int .i64 32] 167) = V6 at *
    clear G_0 G_1 G_2
    clear F_0 F_1 F_2
    refine (hparts _).mono ?_
    rintro e w7 ⟨rfl, hb7⟩
    have hW7 := hW5.trans (hb7.mono hW5.size)
    have hG7 := hG5.below hb7
    have hF7 := hF5.below hb7
    have G_0 := hG7.cell 0 rfl
    have G_1 := hG7.cell 1 rfl
    have G_2 := hG7.cell 2 rfl
    have F_0 := hF7.cell 0 rfl
    have F_1 := hF7.cell 1 rfl
    have F_2 := hF7.cell 2 rfl
    go_upto_region 10 with fail
    go_cut [14] (fun v wx => v = .int .i64 ee ∧ Cls wx (w1.heap.size) 167 [.int .i64 52, .int .i64 11, .int .i64 64] ∧ Cls wx (w4.heap.size) 167 [.int .i64 23, .int .i64 8, .int .i64 32] ∧ Below w.heap.size w wx)
    case first =>
      have hGG := hG7
      have hFF := hF7
      have hWW := hW7
      go_region_held3 (fun w' => w'.cell? ⟨w1.heap.size, 0, none⟩ = some (.int .i64 52) ∧ w'.cell? ⟨w1.heap.size, 1, none⟩ = some (.int .i64 11) ∧ w'.cell? ⟨w1.heap.size, 2, none⟩ = some (.int .i64 64) ∧ w'.cell? ⟨w4.heap.size, 0, none⟩ = some (.int .i64 23) ∧ w'.cell? ⟨w4.heap.size, 1, none⟩ = some (.int .i64 8) ∧ w'.cell? ⟨w4.heap.size, 2, none⟩ = some (.int .i64 32) ∧ Cls w' (w1.heap.size) 167 [.int .i64 52, .int .i64 11, .int .i64 64] ∧ Cls w' (w4.heap.size) 167 [.int .i64 23, .int .i64 8, .int .i64 32] ∧ Below w.heap.size w w')
        (first
          | (refine ⟨?_, ?_, ?_, ?_, ?_, ?_, ?_, ?_, ?_⟩ <;> first | assumption | exact cell_below (by assumption) hbX | exact Cls.below (by assumption) hbX | exact below_nextF (by assumption) hbX | exact Below.drew (by assumption))
          | go_keep
          | (go_split_ands
             refine ⟨?_, ?_, ?_, ?_, ?_, ?_, ?_, ?_, ?_⟩ <;> first | assumption | exact cell_below (by assumption) hbX | exact Cls.below (by assumption) hbX | exact below_nextF (by assumption) hbX | exact Below.drew (by assumption)))
        (first
          | (go_at_call_of 134 (Value.agg #[.int .i64 23, .int .i64 8, .int .i64 32]); refine (bias32_calls _).mono ?_; rintro e wa ⟨rfl, hbX⟩)
          | (go_at_call_of 134 (Value.agg #[.int .i64 52, .int .i64 11, .int .i64 64]); refine (bias64_calls _).mono ?_; rintro e wc ⟨rfl, hbX⟩))
      all_goals (
        go_wp2_with fail
        go_meet
        go_split_ands
        exact ⟨rfl, by assumption, by assumption, by assumption⟩)
    case rest =>
      clear G_0 G_1 G_2
      clear F_0 F_1 F_2
      obtain ⟨rfl, hG9, hF9, hW9⟩ := hcut
      have G_0 := hG9.cell 0 rfl
      have G_1 := hG9.cell 1 rfl
      have G_2 := hG9.cell 2 rfl
      have F_0 := hF9.cell 0 rfl
      have F_1 := hF9.cell 1 rfl
      have F_2 := hF9.cell 2 rfl
      rcases hz with ⟨z1, ⟨z2, z3⟩ | ⟨z2, z3, z4, z5⟩⟩ | ⟨rfl, z1, z2⟩
      all_goals (
        go_wp2_with (first | (go_at_call_of 132 (Value.int IntKind.i64 11); refine (ho11 _).mono ?_; rintro e v8 ⟨rfl, rfl⟩) | (go_at_call_of 132 (Value.int IntKind.i64 8); refine (hok _).mono ?_; rintro e v7 ⟨rfl, rfl⟩))
        go_step3
        go_wp2
        exact ⟨rfl, rfl, rfl, hW9⟩)

set_option maxRecDepth 100000 in
set_option maxHeartbeats 4000000 in
theorem narrow32_top_ok (x : Nat) (hx : x < 18446744073709551616) (h2 : x / 4503599627370496 % 2048 = 2047) (h9 : x % 4503599627370496 % 536870912 = 0) (w : World) :
    Calls Tryz.prog 137 #[.int .u64 x, .int .i64 32] w fun e w' => e = .returned (.tuple #[.int .u64 (narS x 32 : Nat), .bool (narB x 32)]) ∧ Below w.heap.size w w' := by
  have hof := fun W => fof_calls 32 W
  change ∀ W, Calls _ _ _ _ fun e w' => e = .returned (.tuple #[.agg #[.int .i64 23, .int .i64 8, .int .i64 32], .bool true]) ∧ _ at hof
  have heq := eqF32
  have hg := guardF
  have hparts := fun W => parts64_calls x hx W
  have hok := fun W => ones_calls 8 (by decide) W
  change ∀ W, Calls _ _ #[.int .i64 8] _ fun e w' => e = .returned (.int .u64 255) ∧ _ at hok
  have ho11 := fun W => ones_calls 11 (by decide) W
  change ∀ W, Calls _ _ #[.int .i64 11] _ fun e w' => e = .returned (.int .u64 2047) ∧ _ at ho11
  have hoL := fun W => ones_calls 29 (by decide) W
  change ∀ W, Calls _ _ #[.int .i64 29] _ fun e w' => e = .returned (.int .u64 536870911) ∧ _ at hoL
  have hs2 : x / 9223372036854775808 < 2 := by omega
  rw [show x / 9223372036854775808 % 2 = x / 9223372036854775808 from Nat.mod_eq_of_lt hs2] at hparts
  obtain ⟨s, hs⟩ : ∃ s, x / 9223372036854775808 = s := ⟨_, rfl⟩
  obtain ⟨E, he'⟩ : ∃ e, x / 4503599627370496 % 2048 = e := ⟨_, rfl⟩
  obtain ⟨F, hf⟩ : ∃ f, x % 4503599627370496 = f := ⟨_, rfl⟩
  have hFl : F < 4503599627370496 := by omega
  have hEl : E < 2048 := by omega
  rw [hs, he', hf] at hparts
  rw [hs] at hs2
  obtain ⟨y1, hy1⟩ : ∃ y : Int, (E : Int) - 1023 = y := ⟨_, rfl⟩
  obtain ⟨ee, hee⟩ : ∃ y : Int, y1 + 127 = y := ⟨_, rfl⟩
  have hyw : IntKind.i64.wrap y1 = y1 := IntWalk.i64_in _ (by omega)
  have hye : IntKind.i64.wrap ee = ee := IntWalk.i64_in _ (by omega)
  have hw3 : IntKind.i64.wrap 255 = 255 := by decide
  have hw4 : IntKind.i64.wrap 2047 = 2047 := by decide
  have hV : narV f32 x = narV f32 x := rfl
  conv at hV => rhs; unfold narV
  simp only [show x / C64 = s from hs, show x / A64 % 2048 = E from he', show x % A64 = F from hf] at hV
  rw [he'] at h2
  rw [if_pos h2] at hV
  rw [hf] at h9
  have t1 : ((E : Int) == 2047) = true := by rw [beq_iff_eq]; omega
  change narV f32 x = (if F % 536870912 = 0 then some (s * 2147483648 + 255 * 8388608 + F / 536870912) else none) at hV
  rw [if_pos h9] at hV
  have hand := and_mask (x := F) (n := 29) (by omega) 536870911 (by decide) (by decide)
  change bits .and .u64 (F : Int) 536870911 = ((F % 536870912 : Nat) : Int) at hand
  obtain ⟨rm, hrm⟩ : ∃ r, F % 536870912 = r := ⟨_, rfl⟩
  rw [hrm] at hand h9
  have t9 : ((rm : Int) != 0) = false := by rw [h9]; rfl
  obtain ⟨q, hq⟩ : ∃ q, F / 536870912 = q := ⟨_, rfl⟩
  have hqi : (F : Int) / 536870912 = (q : Int) := by omega
  have hql : q < 8388608 := by omega
  have hj := fun W => joined32_calls s 255 q hs2 (by omega) hql W
  change ∀ W, Calls _ _ #[_, _, .int .i64 255, _] _ _ at hj
  obtain ⟨v, hv⟩ : ∃ v, s * 2147483648 + 255 * 8388608 + q = v := ⟨_, rfl⟩
  rw [hv] at hj
  have HR := hid (show narS x 32 = v ∧ narB x 32 = true by
    have e1 : narS x 32 = (narV f32 x).getD 0 := rfl
    have e2 : narB x 32 = (narV f32 x).isSome := rfl
    rw [e1, e2, hV, Option.getD_some, Option.isSome_some]
    exact ⟨by first | (rw [← hv, hq, he9]; done) | (rw [← hv, hq]; done) | (rw [← hv, h2.1, show q = 0 by rw [← hq, h2.2, Nat.zero_div], Nat.zero_mul, Nat.add_zero]; done) | omega, rfl⟩)
  clear hV hv hql hq hs2 hrm h9 h2 hx hs he' hf hFl hEl
  go_enter Tryz.func137, Tryz.ntmps137
  go_wp2
  refine wp_scope_jumps 0 (fun _ _ => False) (fun _ _ => 0) rfl ?first (fun _ _ h => h.elim)
  case first =>
    go_wp2_with fail
    refine (wide_calls _).mono ?_
    rintro e w1 ⟨rfl, hb1⟩
    have hW1 := hb1
    have hG2 := Cls.new w1 167 [.int .i64 52, .int .i64 11, .int .i64 64]
    have hW2 := hW1.alloc hW1.size (.cells #[.int .i64 52, .int .i64 11, .int .i64 64] 167)
    go_wp2_with fail
    generalize w1.alloc (.cells #[.int .i64 52, .int .i64 11, .int .i64 64] 167) = V3 at *
    refine (hof _).mono ?_
    rintro e w4 ⟨rfl, hb4⟩
    have hW4 := hW2.trans (hb4.mono hW2.size)
    have hG4 := hG2.below hb4
    have hG5 := hG4.alloc (.cells #[.int .i64 23, .int .i64 8, .int .i64 32] 167)
    have hF5 := Cls.new w4 167 [.int .i64 23, .int .i64 8, .int .i64 32]
    have hW5 := hW4.alloc hW4.size (.cells #[.int .i64 23, .int .i64 8, .int .i64 32] 167)
    have G_0 := hG5.cell 0 rfl
    have G_1 := hG5.cell 1 rfl
    have G_2 := hG5.cell 2 rfl
    have F_0 := hF5.cell 0 rfl
    have F_1 := hF5.cell 1 rfl
    have F_2 := hF5.cell 2 rfl
    go_wp2_with fail
    generalize w4.alloc (.cells #[.int .i64 23, .int .i64 8, .int .i64 32] 167) = V6 at *
    clear G_0 G_1 G_2
    clear F_0 F_1 F_2
    refine (hparts _).mono ?_
    rintro e w7 ⟨rfl, hb7⟩
    have hW7 := hW5.trans (hb7.mono hW5.size)
    have hG7 := hG5.below hb7
    have hF7 := hF5.below hb7
    have G_0 := hG7.cell 0 rfl
    have G_1 := hG7.cell 1 rfl
    have G_2 := hG7.cell 2 rfl
    have F_0 := hF7.cell 0 rfl
    have F_1 := hF7.cell 1 rfl
    have F_2 := hF7.cell 2 rfl
    go_upto_region 10 with fail
    go_cut [14] (fun v wx => v = .int .i64 ee ∧ Cls wx (w1.heap.size) 167 [.int .i64 52, .int .i64 11, .int .i64 64] ∧ Cls wx (w4.heap.size) 167 [.int .i64 23, .int .i64 8, .int .i64 32] ∧ Below w.heap.size w wx)
    case first =>
      have hGG := hG7
      have hFF := hF7
      have hWW := hW7
      go_region_held3 (fun w' => w'.cell? ⟨w1.heap.size, 0, none⟩ = some (.int .i64 52) ∧ w'.cell? ⟨w1.heap.size, 1, none⟩ = some (.int .i64 11) ∧ w'.cell? ⟨w1.heap.size, 2, none⟩ = some (.int .i64 64) ∧ w'.cell? ⟨w4.heap.size, 0, none⟩ = some (.int .i64 23) ∧ w'.cell? ⟨w4.heap.size, 1, none⟩ = some (.int .i64 8) ∧ w'.cell? ⟨w4.heap.size, 2, none⟩ = some (.int .i64 32) ∧ Cls w' (w1.heap.size) 167 [.int .i64 52, .int .i64 11, .int .i64 64] ∧ Cls w' (w4.heap.size) 167 [.int .i64 23, .int .i64 8, .int .i64 32] ∧ Below w.heap.size w w')
        (first
          | (refine ⟨?_, ?_, ?_, ?_, ?_, ?_, ?_, ?_, ?_⟩ <;> first | assumption | exact cell_below (by assumption) hbX | exact Cls.below (by assumption) hbX | exact below_nextF (by assumption) hbX | exact Below.drew (by assumption))
          | go_keep
          | (go_split_ands
             refine ⟨?_, ?_, ?_, ?_, ?_, ?_, ?_, ?_, ?_⟩ <;> first | assumption | exact cell_below (by assumption) hbX | exact Cls.below (by assumption) hbX | exact below_nextF (by assumption) hbX | exact Below.drew (by assumption)))
        (first
          | (go_at_call_of 134 (Value.agg #[.int .i64 23, .int .i64 8, .int .i64 32]); refine (bias32_calls _).mono ?_; rintro e wa ⟨rfl, hbX⟩)
          | (go_at_call_of 134 (Value.agg #[.int .i64 52, .int .i64 11, .int .i64 64]); refine (bias64_calls _).mono ?_; rintro e wc ⟨rfl, hbX⟩))
      all_goals (
        go_wp2_with fail
        go_meet
        go_split_ands
        exact ⟨rfl, by assumption, by assumption, by assumption⟩)
    case rest =>
      clear G_0 G_1 G_2
      clear F_0 F_1 F_2
      obtain ⟨rfl, hG9, hF9, hW9⟩ := hcut
      have G_0 := hG9.cell 0 rfl
      have G_1 := hG9.cell 1 rfl
      have G_2 := hG9.cell 2 rfl
      have F_0 := hF9.cell 0 rfl
      have F_1 := hF9.cell 1 rfl
      have F_2 := hF9.cell 2 rfl
      go_wp2_with (first | (go_at_call_of 132 (Value.int IntKind.i64 11); refine (ho11 _).mono ?_; rintro e v8 ⟨rfl, rfl⟩) | (go_at_call_of 132 (Value.int IntKind.i64 8); refine (hok _).mono ?_; rintro e v7 ⟨rfl, rfl⟩) | (go_at_call_of 132 (Value.int IntKind.i64 29); refine (hoL _).mono ?_; rintro e v6 ⟨rfl, rfl⟩))
      go_region_held3 (fun w' => w'.cell? ⟨w4.heap.size, 0, none⟩ = some (.int .i64 23) ∧ w'.cell? ⟨w4.heap.size, 1, none⟩ = some (.int .i64 8) ∧ w'.cell? ⟨w4.heap.size, 2, none⟩ = some (.int .i64 32) ∧ Below w.heap.size w w')
        (first
          | (refine ⟨?_, ?_, ?_, ?_⟩ <;> first | assumption | exact cell_below (by assumption) hbX | exact below_nextF (by assumption) hbX | exact Below.drew (by assumption))
          | go_keep
          | (go_split_ands
             refine ⟨?_, ?_, ?_, ?_⟩ <;> first | assumption | exact cell_below (by assumption) hbX | exact below_nextF (by assumption) hbX | exact Below.drew (by assumption)))
        (first
          | (go_at_call 133; refine (hj _).mono ?_; rintro e wr ⟨rfl, hbX⟩))
      all_goals (
        go_wp2
        rw [jump_retF]
        go_ret2
        go_split_ands
        exact ⟨by rw [HR.out.1, HR.out.2] <;> rfl, by assumption⟩)

set_option maxRecDepth 100000 in
set_option maxHeartbeats 4000000 in
theorem narrow32_top_no (x : Nat) (hx : x < 18446744073709551616) (h2 : x / 4503599627370496 % 2048 = 2047) (h9 : x % 4503599627370496 % 536870912 ≠ 0) (w : World) :
    Calls Tryz.prog 137 #[.int .u64 x, .int .i64 32] w fun e w' => e = .returned (.tuple #[.int .u64 (narS x 32 : Nat), .bool (narB x 32)]) ∧ Below w.heap.size w w' := by
  have hof := fun W => fof_calls 32 W
  change ∀ W, Calls _ _ _ _ fun e w' => e = .returned (.tuple #[.agg #[.int .i64 23, .int .i64 8, .int .i64 32], .bool true]) ∧ _ at hof
  have heq := eqF32
  have hg := guardF
  have hparts := fun W => parts64_calls x hx W
  have hok := fun W => ones_calls 8 (by decide) W
  change ∀ W, Calls _ _ #[.int .i64 8] _ fun e w' => e = .returned (.int .u64 255) ∧ _ at hok
  have ho11 := fun W => ones_calls 11 (by decide) W
  change ∀ W, Calls _ _ #[.int .i64 11] _ fun e w' => e = .returned (.int .u64 2047) ∧ _ at ho11
  have hoL := fun W => ones_calls 29 (by decide) W
  change ∀ W, Calls _ _ #[.int .i64 29] _ fun e w' => e = .returned (.int .u64 536870911) ∧ _ at hoL
  have hs2 : x / 9223372036854775808 < 2 := by omega
  rw [show x / 9223372036854775808 % 2 = x / 9223372036854775808 from Nat.mod_eq_of_lt hs2] at hparts
  obtain ⟨s, hs⟩ : ∃ s, x / 9223372036854775808 = s := ⟨_, rfl⟩
  obtain ⟨E, he'⟩ : ∃ e, x / 4503599627370496 % 2048 = e := ⟨_, rfl⟩
  obtain ⟨F, hf⟩ : ∃ f, x % 4503599627370496 = f := ⟨_, rfl⟩
  have hFl : F < 4503599627370496 := by omega
  have hEl : E < 2048 := by omega
  rw [hs, he', hf] at hparts
  rw [hs] at hs2
  obtain ⟨y1, hy1⟩ : ∃ y : Int, (E : Int) - 1023 = y := ⟨_, rfl⟩
  obtain ⟨ee, hee⟩ : ∃ y : Int, y1 + 127 = y := ⟨_, rfl⟩
  have hyw : IntKind.i64.wrap y1 = y1 := IntWalk.i64_in _ (by omega)
  have hye : IntKind.i64.wrap ee = ee := IntWalk.i64_in _ (by omega)
  have hw3 : IntKind.i64.wrap 255 = 255 := by decide
  have hw4 : IntKind.i64.wrap 2047 = 2047 := by decide
  have hV : narV f32 x = narV f32 x := rfl
  conv at hV => rhs; unfold narV
  simp only [show x / C64 = s from hs, show x / A64 % 2048 = E from he', show x % A64 = F from hf] at hV
  rw [he'] at h2
  rw [if_pos h2] at hV
  rw [hf] at h9
  have t1 : ((E : Int) == 2047) = true := by rw [beq_iff_eq]; omega
  change narV f32 x = (if F % 536870912 = 0 then some (s * 2147483648 + 255 * 8388608 + F / 536870912) else none) at hV
  rw [if_neg h9] at hV
  have hand := and_mask (x := F) (n := 29) (by omega) 536870911 (by decide) (by decide)
  change bits .and .u64 (F : Int) 536870911 = ((F % 536870912 : Nat) : Int) at hand
  obtain ⟨rm, hrm⟩ : ∃ r, F % 536870912 = r := ⟨_, rfl⟩
  rw [hrm] at hand h9
  have t9 : ((rm : Int) != 0) = true := by rw [bne_iff_ne]; omega
  have HR := hid (show narS x 32 = 0 ∧ narB x 32 = false by
    have e1 : narS x 32 = (narV f32 x).getD 0 := rfl
    have e2 : narB x 32 = (narV f32 x).isSome := rfl
    rw [e1, e2, hV]
    exact ⟨rfl, rfl⟩)
  clear hV hs2 hrm h9 h2 hx hs he' hf hFl hEl
  go_enter Tryz.func137, Tryz.ntmps137
  go_wp2
  refine wp_scope_jumps 0 (JumpF w) (fun _ _ => 0) rfl ?first ?pass
  case pass =>
    rintro ⟨tmps, defers⟩ w' ⟨h1, h2, hb⟩
    change defers = [] at h1
    change tmps.size = 119 at h2
    subst h1
    go_wp2
    rw [jump_retF]
    exact bodyPost_ret (v := .tuple #[.int .u64 0, .bool false]) (by simp [results, Tryz.results137, go_sem, h2]) rfl ⟨by rw [HR.out.1, HR.out.2] <;> rfl, hb⟩
  case first =>
    go_wp2_with fail
    refine (wide_calls _).mono ?_
    rintro e w1 ⟨rfl, hb1⟩
    have hW1 := hb1
    have hG2 := Cls.new w1 167 [.int .i64 52, .int .i64 11, .int .i64 64]
    have hW2 := hW1.alloc hW1.size (.cells #[.int .i64 52, .int .i64 11, .int .i64 64] 167)
    go_wp2_with fail
    generalize w1.alloc (.cells #[.int .i64 52, .int .i64 11, .int .i64 64] 167) = V3 at *
    refine (hof _).mono ?_
    rintro e w4 ⟨rfl, hb4⟩
    have hW4 := hW2.trans (hb4.mono hW2.size)
    have hG4 := hG2.below hb4
    have hG5 := hG4.alloc (.cells #[.int .i64 23, .int .i64 8, .int .i64 32] 167)
    have hF5 := Cls.new w4 167 [.int .i64 23, .int .i64 8, .int .i64 32]
    have hW5 := hW4.alloc hW4.size (.cells #[.int .i64 23, .int .i64 8, .int .i64 32] 167)
    have G_0 := hG5.cell 0 rfl
    have G_1 := hG5.cell 1 rfl
    have G_2 := hG5.cell 2 rfl
    have F_0 := hF5.cell 0 rfl
    have F_1 := hF5.cell 1 rfl
    have F_2 := hF5.cell 2 rfl
    go_wp2_with fail
    generalize w4.alloc (.cells #[.int .i64 23, .int .i64 8, .int .i64 32] 167) = V6 at *
    clear G_0 G_1 G_2
    clear F_0 F_1 F_2
    refine (hparts _).mono ?_
    rintro e w7 ⟨rfl, hb7⟩
    have hW7 := hW5.trans (hb7.mono hW5.size)
    have hG7 := hG5.below hb7
    have hF7 := hF5.below hb7
    have G_0 := hG7.cell 0 rfl
    have G_1 := hG7.cell 1 rfl
    have G_2 := hG7.cell 2 rfl
    have F_0 := hF7.cell 0 rfl
    have F_1 := hF7.cell 1 rfl
    have F_2 := hF7.cell 2 rfl
    go_upto_region 10 with fail
    go_cut [14] (fun v wx => v = .int .i64 ee ∧ Cls wx (w1.heap.size) 167 [.int .i64 52, .int .i64 11, .int .i64 64] ∧ Cls wx (w4.heap.size) 167 [.int .i64 23, .int .i64 8, .int .i64 32] ∧ Below w.heap.size w wx)
    case first =>
      have hGG := hG7
      have hFF := hF7
      have hWW := hW7
      go_region_held3 (fun w' => w'.cell? ⟨w1.heap.size, 0, none⟩ = some (.int .i64 52) ∧ w'.cell? ⟨w1.heap.size, 1, none⟩ = some (.int .i64 11) ∧ w'.cell? ⟨w1.heap.size, 2, none⟩ = some (.int .i64 64) ∧ w'.cell? ⟨w4.heap.size, 0, none⟩ = some (.int .i64 23) ∧ w'.cell? ⟨w4.heap.size, 1, none⟩ = some (.int .i64 8) ∧ w'.cell? ⟨w4.heap.size, 2, none⟩ = some (.int .i64 32) ∧ Cls w' (w1.heap.size) 167 [.int .i64 52, .int .i64 11, .int .i64 64] ∧ Cls w' (w4.heap.size) 167 [.int .i64 23, .int .i64 8, .int .i64 32] ∧ Below w.heap.size w w')
        (first
          | (refine ⟨?_, ?_, ?_, ?_, ?_, ?_, ?_, ?_, ?_⟩ <;> first | assumption | exact cell_below (by assumption) hbX | exact Cls.below (by assumption) hbX | exact below_nextF (by assumption) hbX | exact Below.drew (by assumption))
          | go_keep
          | (go_split_ands
             refine ⟨?_, ?_, ?_, ?_, ?_, ?_, ?_, ?_, ?_⟩ <;> first | assumption | exact cell_below (by assumption) hbX | exact Cls.below (by assumption) hbX | exact below_nextF (by assumption) hbX | exact Below.drew (by assumption)))
        (first
          | (go_at_call_of 134 (Value.agg #[.int .i64 23, .int .i64 8, .int .i64 32]); refine (bias32_calls _).mono ?_; rintro e wa ⟨rfl, hbX⟩)
          | (go_at_call_of 134 (Value.agg #[.int .i64 52, .int .i64 11, .int .i64 64]); refine (bias64_calls _).mono ?_; rintro e wc ⟨rfl, hbX⟩))
      all_goals (
        go_wp2_with fail
        go_meet
        go_split_ands
        exact ⟨rfl, by assumption, by assumption, by assumption⟩)
    case rest =>
      clear G_0 G_1 G_2
      clear F_0 F_1 F_2
      obtain ⟨rfl, hG9, hF9, hW9⟩ := hcut
      have G_0 := hG9.cell 0 rfl
      have G_1 := hG9.cell 1 rfl
      have G_2 := hG9.cell 2 rfl
      have F_0 := hF9.cell 0 rfl
      have F_1 := hF9.cell 1 rfl
      have F_2 := hF9.cell 2 rfl
      go_wp2_with (first | (go_at_call_of 132 (Value.int IntKind.i64 11); refine (ho11 _).mono ?_; rintro e v8 ⟨rfl, rfl⟩) | (go_at_call_of 132 (Value.int IntKind.i64 8); refine (hok _).mono ?_; rintro e v7 ⟨rfl, rfl⟩) | (go_at_call_of 132 (Value.int IntKind.i64 29); refine (hoL _).mono ?_; rintro e v6 ⟨rfl, rfl⟩))
      go_step3
      go_wp2
      exact ⟨rfl, rfl, rfl, hW9⟩

set_option maxRecDepth 100000 in
set_option maxHeartbeats 4000000 in
theorem narrow32_zero_ok (x : Nat) (hx : x < 18446744073709551616) (h2 : x / 4503599627370496 % 2048 = 0 ∧ x % 4503599627370496 = 0)  (w : World) :
    Calls Tryz.prog 137 #[.int .u64 x, .int .i64 32] w fun e w' => e = .returned (.tuple #[.int .u64 (narS x 32 : Nat), .bool (narB x 32)]) ∧ Below w.heap.size w w' := by
  have hof := fun W => fof_calls 32 W
  change ∀ W, Calls _ _ _ _ fun e w' => e = .returned (.tuple #[.agg #[.int .i64 23, .int .i64 8, .int .i64 32], .bool true]) ∧ _ at hof
  have heq := eqF32
  have hg := guardF
  have hparts := fun W => parts64_calls x hx W
  have hok := fun W => ones_calls 8 (by decide) W
  change ∀ W, Calls _ _ #[.int .i64 8] _ fun e w' => e = .returned (.int .u64 255) ∧ _ at hok
  have ho11 := fun W => ones_calls 11 (by decide) W
  change ∀ W, Calls _ _ #[.int .i64 11] _ fun e w' => e = .returned (.int .u64 2047) ∧ _ at ho11
  have hoL := fun W => ones_calls 29 (by decide) W
  change ∀ W, Calls _ _ #[.int .i64 29] _ fun e w' => e = .returned (.int .u64 536870911) ∧ _ at hoL
  have hs2 : x / 9223372036854775808 < 2 := by omega
  rw [show x / 9223372036854775808 % 2 = x / 9223372036854775808 from Nat.mod_eq_of_lt hs2] at hparts
  obtain ⟨s, hs⟩ : ∃ s, x / 9223372036854775808 = s := ⟨_, rfl⟩
  obtain ⟨E, he'⟩ : ∃ e, x / 4503599627370496 % 2048 = e := ⟨_, rfl⟩
  obtain ⟨F, hf⟩ : ∃ f, x % 4503599627370496 = f := ⟨_, rfl⟩
  have hFl : F < 4503599627370496 := by omega
  have hEl : E < 2048 := by omega
  rw [hs, he', hf] at hparts
  rw [hs] at hs2
  obtain ⟨y1, hy1⟩ : ∃ y : Int, (E : Int) - 1023 = y := ⟨_, rfl⟩
  obtain ⟨ee, hee⟩ : ∃ y : Int, y1 + 127 = y := ⟨_, rfl⟩
  have hyw : IntKind.i64.wrap y1 = y1 := IntWalk.i64_in _ (by omega)
  have hye : IntKind.i64.wrap ee = ee := IntWalk.i64_in _ (by omega)
  have hw3 : IntKind.i64.wrap 255 = 255 := by decide
  have hw4 : IntKind.i64.wrap 2047 = 2047 := by decide
  have hV : narV f32 x = narV f32 x := rfl
  conv at hV => rhs; unfold narV
  simp only [show x / C64 = s from hs, show x / A64 % 2048 = E from he', show x % A64 = F from hf] at hV
  rw [he'] at h2
  rw [hf] at h2
  rw [if_neg (by omega), if_pos h2] at hV
  have h9 : F % 536870912 = 0 := by omega
  have t0 : ((E : Int) == 2047) = false := by rw [beq_eq_false_iff_ne]; omega
  have t1 : ((E : Int) == 0) = true := by rw [beq_iff_eq]; omega
  have t2 : ((F : Int) == 0) = true := by rw [beq_iff_eq]; omega
  change narV f32 x = some (s * 2147483648) at hV
  have hand := and_mask (x := F) (n := 29) (by omega) 536870911 (by decide) (by decide)
  change bits .and .u64 (F : Int) 536870911 = ((F % 536870912 : Nat) : Int) at hand
  obtain ⟨rm, hrm⟩ : ∃ r, F % 536870912 = r := ⟨_, rfl⟩
  rw [hrm] at hand h9
  have t9 : ((rm : Int) != 0) = false := by rw [h9]; rfl
  obtain ⟨q, hq⟩ : ∃ q, F / 536870912 = q := ⟨_, rfl⟩
  have hqi : (F : Int) / 536870912 = (q : Int) := by omega
  have hql : q < 8388608 := by omega
  have hj := fun W => joined32_calls s E q hs2 (by omega) hql W
  obtain ⟨v, hv⟩ : ∃ v, s * 2147483648 + E * 8388608 + q = v := ⟨_, rfl⟩
  rw [hv] at hj
  have HR := hid (show narS x 32 = v ∧ narB x 32 = true by
    have e1 : narS x 32 = (narV f32 x).getD 0 := rfl
    have e2 : narB x 32 = (narV f32 x).isSome := rfl
    rw [e1, e2, hV, Option.getD_some, Option.isSome_some]
    exact ⟨by first | (rw [← hv, hq, he9]; done) | (rw [← hv, hq]; done) | (rw [← hv, h2.1, show q = 0 by rw [← hq, h2.2, Nat.zero_div], Nat.zero_mul, Nat.add_zero]; done) | omega, rfl⟩)
  clear hV hv hql hq hs2 hrm h9 h2 hx hs he' hf hFl hEl
  go_enter Tryz.func137, Tryz.ntmps137
  go_wp2
  refine wp_scope_jumps 0 (fun _ _ => False) (fun _ _ => 0) rfl ?first (fun _ _ h => h.elim)
  case first =>
    go_wp2_with fail
    refine (wide_calls _).mono ?_
    rintro e w1 ⟨rfl, hb1⟩
    have hW1 := hb1
    have hG2 := Cls.new w1 167 [.int .i64 52, .int .i64 11, .int .i64 64]
    have hW2 := hW1.alloc hW1.size (.cells #[.int .i64 52, .int .i64 11, .int .i64 64] 167)
    go_wp2_with fail
    generalize w1.alloc (.cells #[.int .i64 52, .int .i64 11, .int .i64 64] 167) = V3 at *
    refine (hof _).mono ?_
    rintro e w4 ⟨rfl, hb4⟩
    have hW4 := hW2.trans (hb4.mono hW2.size)
    have hG4 := hG2.below hb4
    have hG5 := hG4.alloc (.cells #[.int .i64 23, .int .i64 8, .int .i64 32] 167)
    have hF5 := Cls.new w4 167 [.int .i64 23, .int .i64 8, .int .i64 32]
    have hW5 := hW4.alloc hW4.size (.cells #[.int .i64 23, .int .i64 8, .int .i64 32] 167)
    have G_0 := hG5.cell 0 rfl
    have G_1 := hG5.cell 1 rfl
    have G_2 := hG5.cell 2 rfl
    have F_0 := hF5.cell 0 rfl
    have F_1 := hF5.cell 1 rfl
    have F_2 := hF5.cell 2 rfl
    go_wp2_with fail
    generalize w4.alloc (.cells #[.int .i64 23, .int .i64 8, .int .i64 32] 167) = V6 at *
    clear G_0 G_1 G_2
    clear F_0 F_1 F_2
    refine (hparts _).mono ?_
    rintro e w7 ⟨rfl, hb7⟩
    have hW7 := hW5.trans (hb7.mono hW5.size)
    have hG7 := hG5.below hb7
    have hF7 := hF5.below hb7
    have G_0 := hG7.cell 0 rfl
    have G_1 := hG7.cell 1 rfl
    have G_2 := hG7.cell 2 rfl
    have F_0 := hF7.cell 0 rfl
    have F_1 := hF7.cell 1 rfl
    have F_2 := hF7.cell 2 rfl
    go_upto_region 10 with fail
    go_cut [14] (fun v wx => v = .int .i64 ee ∧ Cls wx (w1.heap.size) 167 [.int .i64 52, .int .i64 11, .int .i64 64] ∧ Cls wx (w4.heap.size) 167 [.int .i64 23, .int .i64 8, .int .i64 32] ∧ Below w.heap.size w wx)
    case first =>
      have hGG := hG7
      have hFF := hF7
      have hWW := hW7
      go_region_held3 (fun w' => w'.cell? ⟨w1.heap.size, 0, none⟩ = some (.int .i64 52) ∧ w'.cell? ⟨w1.heap.size, 1, none⟩ = some (.int .i64 11) ∧ w'.cell? ⟨w1.heap.size, 2, none⟩ = some (.int .i64 64) ∧ w'.cell? ⟨w4.heap.size, 0, none⟩ = some (.int .i64 23) ∧ w'.cell? ⟨w4.heap.size, 1, none⟩ = some (.int .i64 8) ∧ w'.cell? ⟨w4.heap.size, 2, none⟩ = some (.int .i64 32) ∧ Cls w' (w1.heap.size) 167 [.int .i64 52, .int .i64 11, .int .i64 64] ∧ Cls w' (w4.heap.size) 167 [.int .i64 23, .int .i64 8, .int .i64 32] ∧ Below w.heap.size w w')
        (first
          | (refine ⟨?_, ?_, ?_, ?_, ?_, ?_, ?_, ?_, ?_⟩ <;> first | assumption | exact cell_below (by assumption) hbX | exact Cls.below (by assumption) hbX | exact below_nextF (by assumption) hbX | exact Below.drew (by assumption))
          | go_keep
          | (go_split_ands
             refine ⟨?_, ?_, ?_, ?_, ?_, ?_, ?_, ?_, ?_⟩ <;> first | assumption | exact cell_below (by assumption) hbX | exact Cls.below (by assumption) hbX | exact below_nextF (by assumption) hbX | exact Below.drew (by assumption)))
        (first
          | (go_at_call_of 134 (Value.agg #[.int .i64 23, .int .i64 8, .int .i64 32]); refine (bias32_calls _).mono ?_; rintro e wa ⟨rfl, hbX⟩)
          | (go_at_call_of 134 (Value.agg #[.int .i64 52, .int .i64 11, .int .i64 64]); refine (bias64_calls _).mono ?_; rintro e wc ⟨rfl, hbX⟩))
      all_goals (
        go_wp2_with fail
        go_meet
        go_split_ands
        exact ⟨rfl, by assumption, by assumption, by assumption⟩)
    case rest =>
      clear G_0 G_1 G_2
      clear F_0 F_1 F_2
      obtain ⟨rfl, hG9, hF9, hW9⟩ := hcut
      have G_0 := hG9.cell 0 rfl
      have G_1 := hG9.cell 1 rfl
      have G_2 := hG9.cell 2 rfl
      have F_0 := hF9.cell 0 rfl
      have F_1 := hF9.cell 1 rfl
      have F_2 := hF9.cell 2 rfl
      go_wp2_with (first | (go_at_call_of 132 (Value.int IntKind.i64 11); refine (ho11 _).mono ?_; rintro e v8 ⟨rfl, rfl⟩) | (go_at_call_of 132 (Value.int IntKind.i64 8); refine (hok _).mono ?_; rintro e v7 ⟨rfl, rfl⟩) | (go_at_call_of 132 (Value.int IntKind.i64 29); refine (hoL _).mono ?_; rintro e v6 ⟨rfl, rfl⟩))
      go_region_held3 (fun w' => w'.cell? ⟨w4.heap.size, 0, none⟩ = some (.int .i64 23) ∧ w'.cell? ⟨w4.heap.size, 1, none⟩ = some (.int .i64 8) ∧ w'.cell? ⟨w4.heap.size, 2, none⟩ = some (.int .i64 32) ∧ Below w.heap.size w w')
        (first
          | (refine ⟨?_, ?_, ?_, ?_⟩ <;> first | assumption | exact cell_below (by assumption) hbX | exact below_nextF (by assumption) hbX | exact Below.drew (by assumption))
          | go_keep
          | (go_split_ands
             refine ⟨?_, ?_, ?_, ?_⟩ <;> first | assumption | exact cell_below (by assumption) hbX | exact below_nextF (by assumption) hbX | exact Below.drew (by assumption)))
        (first
          | (go_at_call 133; refine (hj _).mono ?_; rintro e wr ⟨rfl, hbX⟩))
      all_goals (
        go_wp2
        rw [jump_retF]
        go_ret2
        go_split_ands
        exact ⟨by rw [HR.out.1, HR.out.2] <;> rfl, by assumption⟩)

set_option maxRecDepth 100000 in
set_option maxHeartbeats 4000000 in
theorem narrow32_main_ok (x : Nat) (hx : x < 18446744073709551616) (h2 : x / 4503599627370496 % 2048 ≠ 2047) (h3 : 1023 < x / 4503599627370496 % 2048 + 127 ∧ x / 4503599627370496 % 2048 + 127 < 1023 + 256 - 1) (h9 : x % 4503599627370496 % 536870912 = 0) (w : World) :
    Calls Tryz.prog 137 #[.int .u64 x, .int .i64 32] w fun e w' => e = .returned (.tuple #[.int .u64 (narS x 32 : Nat), .bool (narB x 32)]) ∧ Below w.heap.size w w' := by
  have hof := fun W => fof_calls 32 W
  change ∀ W, Calls _ _ _ _ fun e w' => e = .returned (.tuple #[.agg #[.int .i64 23, .int .i64 8, .int .i64 32], .bool true]) ∧ _ at hof
  have heq := eqF32
  have hg := guardF
  have hparts := fun W => parts64_calls x hx W
  have hok := fun W => ones_calls 8 (by decide) W
  change ∀ W, Calls _ _ #[.int .i64 8] _ fun e w' => e = .returned (.int .u64 255) ∧ _ at hok
  have ho11 := fun W => ones_calls 11 (by decide) W
  change ∀ W, Calls _ _ #[.int .i64 11] _ fun e w' => e = .returned (.int .u64 2047) ∧ _ at ho11
  have hoL := fun W => ones_calls 29 (by decide) W
  change ∀ W, Calls _ _ #[.int .i64 29] _ fun e w' => e = .returned (.int .u64 536870911) ∧ _ at hoL
  have hs2 : x / 9223372036854775808 < 2 := by omega
  rw [show x / 9223372036854775808 % 2 = x / 9223372036854775808 from Nat.mod_eq_of_lt hs2] at hparts
  obtain ⟨s, hs⟩ : ∃ s, x / 9223372036854775808 = s := ⟨_, rfl⟩
  obtain ⟨E, he'⟩ : ∃ e, x / 4503599627370496 % 2048 = e := ⟨_, rfl⟩
  obtain ⟨F, hf⟩ : ∃ f, x % 4503599627370496 = f := ⟨_, rfl⟩
  have hFl : F < 4503599627370496 := by omega
  have hEl : E < 2048 := by omega
  rw [hs, he', hf] at hparts
  rw [hs] at hs2
  obtain ⟨y1, hy1⟩ : ∃ y : Int, (E : Int) - 1023 = y := ⟨_, rfl⟩
  obtain ⟨ee, hee⟩ : ∃ y : Int, y1 + 127 = y := ⟨_, rfl⟩
  have hyw : IntKind.i64.wrap y1 = y1 := IntWalk.i64_in _ (by omega)
  have hye : IntKind.i64.wrap ee = ee := IntWalk.i64_in _ (by omega)
  have hw3 : IntKind.i64.wrap 255 = 255 := by decide
  have hw4 : IntKind.i64.wrap 2047 = 2047 := by decide
  have hV : narV f32 x = narV f32 x := rfl
  conv at hV => rhs; unfold narV
  simp only [show x / C64 = s from hs, show x / A64 % 2048 = E from he', show x % A64 = F from hf] at hV
  rw [he'] at h2
  rw [he'] at h3
  rw [if_neg h2, if_neg (by omega), if_pos (show 1023 < E + f32.bias ∧ E + f32.bias < 1023 + f32.B - 1 from h3)] at hV
  rw [hf] at h9
  have t0 : ((E : Int) == 2047) = false := by rw [beq_eq_false_iff_ne]; omega
  have t1 : ((E : Int) == 0) = false := by rw [beq_eq_false_iff_ne]; omega
  obtain ⟨e9, rfl⟩ : ∃ n : Nat, ee = n := ⟨ee.toNat, by omega⟩
  have t2 : (0 : Int) < (e9 : Int) := by omega
  have t3 : (e9 : Int) < 255 := by omega
  have he9 : E + 127 - 1023 = e9 := by omega
  change narV f32 x = (if F % 536870912 = 0 then some (s * 2147483648 + (E + 127 - 1023) * 8388608 + F / 536870912) else none) at hV
  rw [if_pos h9] at hV
  have hand := and_mask (x := F) (n := 29) (by omega) 536870911 (by decide) (by decide)
  change bits .and .u64 (F : Int) 536870911 = ((F % 536870912 : Nat) : Int) at hand
  obtain ⟨rm, hrm⟩ : ∃ r, F % 536870912 = r := ⟨_, rfl⟩
  rw [hrm] at hand h9
  have t9 : ((rm : Int) != 0) = false := by rw [h9]; rfl
  obtain ⟨q, hq⟩ : ∃ q, F / 536870912 = q := ⟨_, rfl⟩
  have hqi : (F : Int) / 536870912 = (q : Int) := by omega
  have hql : q < 8388608 := by omega
  have hj := fun W => joined32_calls s e9 q hs2 (by omega) hql W
  obtain ⟨v, hv⟩ : ∃ v, s * 2147483648 + e9 * 8388608 + q = v := ⟨_, rfl⟩
  rw [hv] at hj
  have HR := hid (show narS x 32 = v ∧ narB x 32 = true by
    have e1 : narS x 32 = (narV f32 x).getD 0 := rfl
    have e2 : narB x 32 = (narV f32 x).isSome := rfl
    rw [e1, e2, hV, Option.getD_some, Option.isSome_some]
    exact ⟨by first | (rw [← hv, hq, he9]; done) | (rw [← hv, hq]; done) | (rw [← hv, h2.1, show q = 0 by rw [← hq, h2.2, Nat.zero_div], Nat.zero_mul, Nat.add_zero]; done) | omega, rfl⟩)
  clear hV hv hql hq hs2 hrm h9 h2 hx hs he' hf hFl hEl
  clear he9 h3
  go_enter Tryz.func137, Tryz.ntmps137
  go_wp2
  refine wp_scope_jumps 0 (fun _ _ => False) (fun _ _ => 0) rfl ?first (fun _ _ h => h.elim)
  case first =>
    go_wp2_with fail
    refine (wide_calls _).mono ?_
    rintro e w1 ⟨rfl, hb1⟩
    have hW1 := hb1
    have hG2 := Cls.new w1 167 [.int .i64 52, .int .i64 11, .int .i64 64]
    have hW2 := hW1.alloc hW1.size (.cells #[.int .i64 52, .int .i64 11, .int .i64 64] 167)
    go_wp2_with fail
    generalize w1.alloc (.cells #[.int .i64 52, .int .i64 11, .int .i64 64] 167) = V3 at *
    refine (hof _).mono ?_
    rintro e w4 ⟨rfl, hb4⟩
    have hW4 := hW2.trans (hb4.mono hW2.size)
    have hG4 := hG2.below hb4
    have hG5 := hG4.alloc (.cells #[.int .i64 23, .int .i64 8, .int .i64 32] 167)
    have hF5 := Cls.new w4 167 [.int .i64 23, .int .i64 8, .int .i64 32]
    have hW5 := hW4.alloc hW4.size (.cells #[.int .i64 23, .int .i64 8, .int .i64 32] 167)
    have G_0 := hG5.cell 0 rfl
    have G_1 := hG5.cell 1 rfl
    have G_2 := hG5.cell 2 rfl
    have F_0 := hF5.cell 0 rfl
    have F_1 := hF5.cell 1 rfl
    have F_2 := hF5.cell 2 rfl
    go_wp2_with fail
    generalize w4.alloc (.cells #[.int .i64 23, .int .i64 8, .int .i64 32] 167) = V6 at *
    clear G_0 G_1 G_2
    clear F_0 F_1 F_2
    refine (hparts _).mono ?_
    rintro e w7 ⟨rfl, hb7⟩
    have hW7 := hW5.trans (hb7.mono hW5.size)
    have hG7 := hG5.below hb7
    have hF7 := hF5.below hb7
    have G_0 := hG7.cell 0 rfl
    have G_1 := hG7.cell 1 rfl
    have G_2 := hG7.cell 2 rfl
    have F_0 := hF7.cell 0 rfl
    have F_1 := hF7.cell 1 rfl
    have F_2 := hF7.cell 2 rfl
    go_upto_region 10 with fail
    go_cut [14] (fun v wx => v = .int .i64 e9 ∧ Cls wx (w1.heap.size) 167 [.int .i64 52, .int .i64 11, .int .i64 64] ∧ Cls wx (w4.heap.size) 167 [.int .i64 23, .int .i64 8, .int .i64 32] ∧ Below w.heap.size w wx)
    case first =>
      have hGG := hG7
      have hFF := hF7
      have hWW := hW7
      go_region_held3 (fun w' => w'.cell? ⟨w1.heap.size, 0, none⟩ = some (.int .i64 52) ∧ w'.cell? ⟨w1.heap.size, 1, none⟩ = some (.int .i64 11) ∧ w'.cell? ⟨w1.heap.size, 2, none⟩ = some (.int .i64 64) ∧ w'.cell? ⟨w4.heap.size, 0, none⟩ = some (.int .i64 23) ∧ w'.cell? ⟨w4.heap.size, 1, none⟩ = some (.int .i64 8) ∧ w'.cell? ⟨w4.heap.size, 2, none⟩ = some (.int .i64 32) ∧ Cls w' (w1.heap.size) 167 [.int .i64 52, .int .i64 11, .int .i64 64] ∧ Cls w' (w4.heap.size) 167 [.int .i64 23, .int .i64 8, .int .i64 32] ∧ Below w.heap.size w w')
        (first
          | (refine ⟨?_, ?_, ?_, ?_, ?_, ?_, ?_, ?_, ?_⟩ <;> first | assumption | exact cell_below (by assumption) hbX | exact Cls.below (by assumption) hbX | exact below_nextF (by assumption) hbX | exact Below.drew (by assumption))
          | go_keep
          | (go_split_ands
             refine ⟨?_, ?_, ?_, ?_, ?_, ?_, ?_, ?_, ?_⟩ <;> first | assumption | exact cell_below (by assumption) hbX | exact Cls.below (by assumption) hbX | exact below_nextF (by assumption) hbX | exact Below.drew (by assumption)))
        (first
          | (go_at_call_of 134 (Value.agg #[.int .i64 23, .int .i64 8, .int .i64 32]); refine (bias32_calls _).mono ?_; rintro e wa ⟨rfl, hbX⟩)
          | (go_at_call_of 134 (Value.agg #[.int .i64 52, .int .i64 11, .int .i64 64]); refine (bias64_calls _).mono ?_; rintro e wc ⟨rfl, hbX⟩))
      all_goals (
        go_wp2_with fail
        go_meet
        go_split_ands
        exact ⟨rfl, by assumption, by assumption, by assumption⟩)
    case rest =>
      clear G_0 G_1 G_2
      clear F_0 F_1 F_2
      obtain ⟨rfl, hG9, hF9, hW9⟩ := hcut
      have G_0 := hG9.cell 0 rfl
      have G_1 := hG9.cell 1 rfl
      have G_2 := hG9.cell 2 rfl
      have F_0 := hF9.cell 0 rfl
      have F_1 := hF9.cell 1 rfl
      have F_2 := hF9.cell 2 rfl
      go_wp2_with (first | (go_at_call_of 132 (Value.int IntKind.i64 11); refine (ho11 _).mono ?_; rintro e v8 ⟨rfl, rfl⟩) | (go_at_call_of 132 (Value.int IntKind.i64 8); refine (hok _).mono ?_; rintro e v7 ⟨rfl, rfl⟩) | (go_at_call_of 132 (Value.int IntKind.i64 29); refine (hoL _).mono ?_; rintro e v6 ⟨rfl, rfl⟩))
      go_region_held3 (fun w' => w'.cell? ⟨w4.heap.size, 0, none⟩ = some (.int .i64 23) ∧ w'.cell? ⟨w4.heap.size, 1, none⟩ = some (.int .i64 8) ∧ w'.cell? ⟨w4.heap.size, 2, none⟩ = some (.int .i64 32) ∧ Below w.heap.size w w')
        (first
          | (refine ⟨?_, ?_, ?_, ?_⟩ <;> first | assumption | exact cell_below (by assumption) hbX | exact below_nextF (by assumption) hbX | exact Below.drew (by assumption))
          | go_keep
          | (go_split_ands
             refine ⟨?_, ?_, ?_, ?_⟩ <;> first | assumption | exact cell_below (by assumption) hbX | exact below_nextF (by assumption) hbX | exact Below.drew (by assumption)))
        (first
          | (go_at_call 133; refine (hj _).mono ?_; rintro e wr ⟨rfl, hbX⟩))
      all_goals (
        go_wp2
        rw [jump_retF]
        go_ret2
        go_split_ands
        exact ⟨by rw [HR.out.1, HR.out.2] <;> rfl, by assumption⟩)

set_option maxRecDepth 100000 in
set_option maxHeartbeats 4000000 in
theorem narrow32_main_no (x : Nat) (hx : x < 18446744073709551616) (h2 : x / 4503599627370496 % 2048 ≠ 2047) (h3 : 1023 < x / 4503599627370496 % 2048 + 127 ∧ x / 4503599627370496 % 2048 + 127 < 1023 + 256 - 1) (h9 : x % 4503599627370496 % 536870912 ≠ 0) (w : World) :
    Calls Tryz.prog 137 #[.int .u64 x, .int .i64 32] w fun e w' => e = .returned (.tuple #[.int .u64 (narS x 32 : Nat), .bool (narB x 32)]) ∧ Below w.heap.size w w' := by
  have hof := fun W => fof_calls 32 W
  change ∀ W, Calls _ _ _ _ fun e w' => e = .returned (.tuple #[.agg #[.int .i64 23, .int .i64 8, .int .i64 32], .bool true]) ∧ _ at hof
  have heq := eqF32
  have hg := guardF
  have hparts := fun W => parts64_calls x hx W
  have hok := fun W => ones_calls 8 (by decide) W
  change ∀ W, Calls _ _ #[.int .i64 8] _ fun e w' => e = .returned (.int .u64 255) ∧ _ at hok
  have ho11 := fun W => ones_calls 11 (by decide) W
  change ∀ W, Calls _ _ #[.int .i64 11] _ fun e w' => e = .returned (.int .u64 2047) ∧ _ at ho11
  have hoL := fun W => ones_calls 29 (by decide) W
  change ∀ W, Calls _ _ #[.int .i64 29] _ fun e w' => e = .returned (.int .u64 536870911) ∧ _ at hoL
  have hs2 : x / 9223372036854775808 < 2 := by omega
  rw [show x / 9223372036854775808 % 2 = x / 9223372036854775808 from Nat.mod_eq_of_lt hs2] at hparts
  obtain ⟨s, hs⟩ : ∃ s, x / 9223372036854775808 = s := ⟨_, rfl⟩
  obtain ⟨E, he'⟩ : ∃ e, x / 4503599627370496 % 2048 = e := ⟨_, rfl⟩
  obtain ⟨F, hf⟩ : ∃ f, x % 4503599627370496 = f := ⟨_, rfl⟩
  have hFl : F < 4503599627370496 := by omega
  have hEl : E < 2048 := by omega
  rw [hs, he', hf] at hparts
  rw [hs] at hs2
  obtain ⟨y1, hy1⟩ : ∃ y : Int, (E : Int) - 1023 = y := ⟨_, rfl⟩
  obtain ⟨ee, hee⟩ : ∃ y : Int, y1 + 127 = y := ⟨_, rfl⟩
  have hyw : IntKind.i64.wrap y1 = y1 := IntWalk.i64_in _ (by omega)
  have hye : IntKind.i64.wrap ee = ee := IntWalk.i64_in _ (by omega)
  have hw3 : IntKind.i64.wrap 255 = 255 := by decide
  have hw4 : IntKind.i64.wrap 2047 = 2047 := by decide
  have hV : narV f32 x = narV f32 x := rfl
  conv at hV => rhs; unfold narV
  simp only [show x / C64 = s from hs, show x / A64 % 2048 = E from he', show x % A64 = F from hf] at hV
  rw [he'] at h2
  rw [he'] at h3
  rw [if_neg h2, if_neg (by omega), if_pos (show 1023 < E + f32.bias ∧ E + f32.bias < 1023 + f32.B - 1 from h3)] at hV
  rw [hf] at h9
  have t0 : ((E : Int) == 2047) = false := by rw [beq_eq_false_iff_ne]; omega
  have t1 : ((E : Int) == 0) = false := by rw [beq_eq_false_iff_ne]; omega
  obtain ⟨e9, rfl⟩ : ∃ n : Nat, ee = n := ⟨ee.toNat, by omega⟩
  have t2 : (0 : Int) < (e9 : Int) := by omega
  have t3 : (e9 : Int) < 255 := by omega
  have he9 : E + 127 - 1023 = e9 := by omega
  change narV f32 x = (if F % 536870912 = 0 then some (s * 2147483648 + (E + 127 - 1023) * 8388608 + F / 536870912) else none) at hV
  rw [if_neg h9] at hV
  have hand := and_mask (x := F) (n := 29) (by omega) 536870911 (by decide) (by decide)
  change bits .and .u64 (F : Int) 536870911 = ((F % 536870912 : Nat) : Int) at hand
  obtain ⟨rm, hrm⟩ : ∃ r, F % 536870912 = r := ⟨_, rfl⟩
  rw [hrm] at hand h9
  have t9 : ((rm : Int) != 0) = true := by rw [bne_iff_ne]; omega
  have HR := hid (show narS x 32 = 0 ∧ narB x 32 = false by
    have e1 : narS x 32 = (narV f32 x).getD 0 := rfl
    have e2 : narB x 32 = (narV f32 x).isSome := rfl
    rw [e1, e2, hV]
    exact ⟨rfl, rfl⟩)
  clear hV hs2 hrm h9 h2 hx hs he' hf hFl hEl
  clear he9 h3
  go_enter Tryz.func137, Tryz.ntmps137
  go_wp2
  refine wp_scope_jumps 0 (JumpF w) (fun _ _ => 0) rfl ?first ?pass
  case pass =>
    rintro ⟨tmps, defers⟩ w' ⟨h1, h2, hb⟩
    change defers = [] at h1
    change tmps.size = 119 at h2
    subst h1
    go_wp2
    rw [jump_retF]
    exact bodyPost_ret (v := .tuple #[.int .u64 0, .bool false]) (by simp [results, Tryz.results137, go_sem, h2]) rfl ⟨by rw [HR.out.1, HR.out.2] <;> rfl, hb⟩
  case first =>
    go_wp2_with fail
    refine (wide_calls _).mono ?_
    rintro e w1 ⟨rfl, hb1⟩
    have hW1 := hb1
    have hG2 := Cls.new w1 167 [.int .i64 52, .int .i64 11, .int .i64 64]
    have hW2 := hW1.alloc hW1.size (.cells #[.int .i64 52, .int .i64 11, .int .i64 64] 167)
    go_wp2_with fail
    generalize w1.alloc (.cells #[.int .i64 52, .int .i64 11, .int .i64 64] 167) = V3 at *
    refine (hof _).mono ?_
    rintro e w4 ⟨rfl, hb4⟩
    have hW4 := hW2.trans (hb4.mono hW2.size)
    have hG4 := hG2.below hb4
    have hG5 := hG4.alloc (.cells #[.int .i64 23, .int .i64 8, .int .i64 32] 167)
    have hF5 := Cls.new w4 167 [.int .i64 23, .int .i64 8, .int .i64 32]
    have hW5 := hW4.alloc hW4.size (.cells #[.int .i64 23, .int .i64 8, .int .i64 32] 167)
    have G_0 := hG5.cell 0 rfl
    have G_1 := hG5.cell 1 rfl
    have G_2 := hG5.cell 2 rfl
    have F_0 := hF5.cell 0 rfl
    have F_1 := hF5.cell 1 rfl
    have F_2 := hF5.cell 2 rfl
    go_wp2_with fail
    generalize w4.alloc (.cells #[.int .i64 23, .int .i64 8, .int .i64 32] 167) = V6 at *
    clear G_0 G_1 G_2
    clear F_0 F_1 F_2
    refine (hparts _).mono ?_
    rintro e w7 ⟨rfl, hb7⟩
    have hW7 := hW5.trans (hb7.mono hW5.size)
    have hG7 := hG5.below hb7
    have hF7 := hF5.below hb7
    have G_0 := hG7.cell 0 rfl
    have G_1 := hG7.cell 1 rfl
    have G_2 := hG7.cell 2 rfl
    have F_0 := hF7.cell 0 rfl
    have F_1 := hF7.cell 1 rfl
    have F_2 := hF7.cell 2 rfl
    go_upto_region 10 with fail
    go_cut [14] (fun v wx => v = .int .i64 e9 ∧ Cls wx (w1.heap.size) 167 [.int .i64 52, .int .i64 11, .int .i64 64] ∧ Cls wx (w4.heap.size) 167 [.int .i64 23, .int .i64 8, .int .i64 32] ∧ Below w.heap.size w wx)
    case first =>
      have hGG := hG7
      have hFF := hF7
      have hWW := hW7
      go_region_held3 (fun w' => w'.cell? ⟨w1.heap.size, 0, none⟩ = some (.int .i64 52) ∧ w'.cell? ⟨w1.heap.size, 1, none⟩ = some (.int .i64 11) ∧ w'.cell? ⟨w1.heap.size, 2, none⟩ = some (.int .i64 64) ∧ w'.cell? ⟨w4.heap.size, 0, none⟩ = some (.int .i64 23) ∧ w'.cell? ⟨w4.heap.size, 1, none⟩ = some (.int .i64 8) ∧ w'.cell? ⟨w4.heap.size, 2, none⟩ = some (.int .i64 32) ∧ Cls w' (w1.heap.size) 167 [.int .i64 52, .int .i64 11, .int .i64 64] ∧ Cls w' (w4.heap.size) 167 [.int .i64 23, .int .i64 8, .int .i64 32] ∧ Below w.heap.size w w')
        (first
          | (refine ⟨?_, ?_, ?_, ?_, ?_, ?_, ?_, ?_, ?_⟩ <;> first | assumption | exact cell_below (by assumption) hbX | exact Cls.below (by assumption) hbX | exact below_nextF (by assumption) hbX | exact Below.drew (by assumption))
          | go_keep
          | (go_split_ands
             refine ⟨?_, ?_, ?_, ?_, ?_, ?_, ?_, ?_, ?_⟩ <;> first | assumption | exact cell_below (by assumption) hbX | exact Cls.below (by assumption) hbX | exact below_nextF (by assumption) hbX | exact Below.drew (by assumption)))
        (first
          | (go_at_call_of 134 (Value.agg #[.int .i64 23, .int .i64 8, .int .i64 32]); refine (bias32_calls _).mono ?_; rintro e wa ⟨rfl, hbX⟩)
          | (go_at_call_of 134 (Value.agg #[.int .i64 52, .int .i64 11, .int .i64 64]); refine (bias64_calls _).mono ?_; rintro e wc ⟨rfl, hbX⟩))
      all_goals (
        go_wp2_with fail
        go_meet
        go_split_ands
        exact ⟨rfl, by assumption, by assumption, by assumption⟩)
    case rest =>
      clear G_0 G_1 G_2
      clear F_0 F_1 F_2
      obtain ⟨rfl, hG9, hF9, hW9⟩ := hcut
      have G_0 := hG9.cell 0 rfl
      have G_1 := hG9.cell 1 rfl
      have G_2 := hG9.cell 2 rfl
      have F_0 := hF9.cell 0 rfl
      have F_1 := hF9.cell 1 rfl
      have F_2 := hF9.cell 2 rfl
      go_wp2_with (first | (go_at_call_of 132 (Value.int IntKind.i64 11); refine (ho11 _).mono ?_; rintro e v8 ⟨rfl, rfl⟩) | (go_at_call_of 132 (Value.int IntKind.i64 8); refine (hok _).mono ?_; rintro e v7 ⟨rfl, rfl⟩) | (go_at_call_of 132 (Value.int IntKind.i64 29); refine (hoL _).mono ?_; rintro e v6 ⟨rfl, rfl⟩))
      go_step3
      go_wp2
      exact ⟨rfl, rfl, rfl, hW9⟩
end Go.Proofs.YtpjlepkdiaohiaaGreatDoor

/- Package float: Narrow to 32, small numbers: walked. -/
namespace Go.Proofs.YtpjlepkdiaohiaaGreatDoor
open Go.RowKit Go.Shelf
attribute [local go_sem] Oper.semAt_some

set_option maxRecDepth 100000 in
set_option maxHeartbeats 4000000 in
theorem narrow32_sub_ok (x : Nat) (hx : x < 18446744073709551616) (h2 : x / 4503599627370496 % 2048 ≠ 2047) (h4 : 0 < x / 4503599627370496 % 2048 ∧ x / 4503599627370496 % 2048 + 127 ≤ 1023 ∧ 1023 < x / 4503599627370496 % 2048 + 127 + 23) (h9 : (x % 4503599627370496 + A64) % (536870912 * 2 ^ (1024 - 127 - x / 4503599627370496 % 2048)) = 0) (w : World) :
    Calls Tryz.prog 137 #[.int .u64 x, .int .i64 32] w fun e w' => e = .returned (.tuple #[.int .u64 (narS x 32 : Nat), .bool (narB x 32)]) ∧ Below w.heap.size w w' := by
  have hof := fun W => fof_calls 32 W
  change ∀ W, Calls _ _ _ _ fun e w' => e = .returned (.tuple #[.agg #[.int .i64 23, .int .i64 8, .int .i64 32], .bool true]) ∧ _ at hof
  have heq := eqF32
  have hg := guardF
  have hparts := fun W => parts64_calls x hx W
  have hok := fun W => ones_calls 8 (by decide) W
  change ∀ W, Calls _ _ #[.int .i64 8] _ fun e w' => e = .returned (.int .u64 255) ∧ _ at hok
  have ho11 := fun W => ones_calls 11 (by decide) W
  change ∀ W, Calls _ _ #[.int .i64 11] _ fun e w' => e = .returned (.int .u64 2047) ∧ _ at ho11
  have hoL := fun W => ones_calls 29 (by decide) W
  change ∀ W, Calls _ _ #[.int .i64 29] _ fun e w' => e = .returned (.int .u64 536870911) ∧ _ at hoL
  have hs2 : x / 9223372036854775808 < 2 := by omega
  rw [show x / 9223372036854775808 % 2 = x / 9223372036854775808 from Nat.mod_eq_of_lt hs2] at hparts
  obtain ⟨s, hs⟩ : ∃ s, x / 9223372036854775808 = s := ⟨_, rfl⟩
  obtain ⟨E, he'⟩ : ∃ e, x / 4503599627370496 % 2048 = e := ⟨_, rfl⟩
  obtain ⟨F, hf⟩ : ∃ f, x % 4503599627370496 = f := ⟨_, rfl⟩
  have hFl : F < 4503599627370496 := by omega
  have hEl : E < 2048 := by omega
  rw [hs, he', hf] at hparts
  rw [hs] at hs2
  obtain ⟨y1, hy1⟩ : ∃ y : Int, (E : Int) - 1023 = y := ⟨_, rfl⟩
  obtain ⟨ee, hee⟩ : ∃ y : Int, y1 + 127 = y := ⟨_, rfl⟩
  have hyw : IntKind.i64.wrap y1 = y1 := IntWalk.i64_in _ (by omega)
  have hye : IntKind.i64.wrap ee = ee := IntWalk.i64_in _ (by omega)
  have hw3 : IntKind.i64.wrap 255 = 255 := by decide
  have hw4 : IntKind.i64.wrap 2047 = 2047 := by decide
  have hV : narV f32 x = narV f32 x := rfl
  conv at hV => rhs; unfold narV
  simp only [show x / C64 = s from hs, show x / A64 % 2048 = E from he', show x % A64 = F from hf] at hV
  rw [he'] at h2 h4 h9
  rw [hf] at h9
  rw [if_neg h2, if_neg (by omega), if_neg (show ¬ (1023 < E + f32.bias ∧ E + f32.bias < 1023 + f32.B - 1) from fun h => by have : f32.bias = 127 := rfl; omega), if_pos (show 0 < E ∧ E + f32.bias ≤ 1023 ∧ 1023 < E + f32.bias + f32.p from h4)] at hV
  change narV f32 x = (if (F + A64) % (536870912 * 2 ^ (1024 - 127 - E)) = 0 then some (s * 2147483648 + (F + A64) / (536870912 * 2 ^ (1024 - 127 - E))) else none) at hV
  obtain ⟨lo, hlo⟩ : ∃ lo, 29 + (1024 - 127 - E) = lo := ⟨_, rfl⟩
  have hpow : 536870912 * 2 ^ (1024 - 127 - E) = 2 ^ lo := by rw [← hlo, Nat.pow_add]
  rw [hpow] at hV h9
  rw [if_pos h9] at hV
  obtain ⟨fr, hfr⟩ : ∃ v, F + 4503599627370496 = v := ⟨_, rfl⟩
  rw [show F + A64 = fr from hfr] at hV h9
  have hl63 : lo ≤ 63 := by omega
  have hoLo := fun W => ones_calls lo hl63 W
  have hand := and_mask (x := fr) (n := lo) (by omega) ((2 ^ lo - 1 : Nat) : Int) rfl hl63
  obtain ⟨mk', hmk'⟩ : ∃ v, 2 ^ lo - 1 = v := ⟨_, rfl⟩
  rw [hmk'] at hoLo hand
  obtain ⟨rm, hrm⟩ : ∃ r, fr % 2 ^ lo = r := ⟨_, rfl⟩
  rw [hrm] at hand h9
  have hor2 := or_52 hFl
  rw [hfr] at hor2
  have t0 : ((E : Int) == 2047) = false := by rw [beq_eq_false_iff_ne]; omega
  have t1 : ((E : Int) == 0) = false := by rw [beq_eq_false_iff_ne]; omega
  have t2 : (0 : Int) < (E : Int) := by omega
  have t3 : ee ≤ 0 := by omega
  have t4 : -23 < ee := by omega
  have t5 : ¬ 0 < ee := by omega
  have hlo1 : 30 - ee = (lo : Int) := by omega
  have hlow : IntKind.i64.wrap (lo : Int) = (lo : Int) := IntWalk.i64_in _ (by omega)
  have hlo64 : (lo : Int) ≤ 64 := by omega
  have hw52 : IntKind.u64.wrap 4503599627370496 = 4503599627370496 := by decide
  have hwsh : IntKind.i64.wrap 30 = 30 := by decide
  have hwp : IntKind.i64.wrap (-23) = -23 := by decide
  obtain ⟨PL, hPL⟩ : ∃ v : Nat, 2 ^ lo = v := ⟨_, rfl⟩
  have hPLi : (2 : Int) ^ lo = (PL : Int) := by rw [pow_cast, hPL]
  have hPL2 : 1073741824 ≤ PL := by rw [← hPL]; exact Nat.le_trans (by decide) (pow_le (show 30 ≤ lo by omega))
  have t9 : ((rm : Int) != 0) = false := by rw [h9]; rfl
  obtain ⟨q, hq⟩ : ∃ q, fr / PL = q := ⟨_, rfl⟩
  have hqi : (fr : Int) / (PL : Int) = (q : Int) := by rw [← hq]; exact (Int.natCast_ediv fr PL).symm
  have hql : q < 8388608 := by
    rw [← hq]
    refine (Nat.div_lt_iff_lt_mul (by omega)).2 (Nat.lt_of_lt_of_le (show fr < 8388608 * 1073741824 by omega) (Nat.mul_le_mul_left _ hPL2))
  have hj := fun W => joined32_calls s 0 q hs2 (by decide) hql W
  change ∀ W, Calls _ _ #[_, _, .int .i64 0, _] _ _ at hj
  simp only [Nat.zero_mul, Nat.add_zero] at hj
  obtain ⟨v, hv⟩ : ∃ v, s * 2147483648 + q = v := ⟨_, rfl⟩
  rw [hv] at hj
  have HR := hid (show narS x 32 = v ∧ narB x 32 = true by
    have e1 : narS x 32 = (narV f32 x).getD 0 := rfl
    have e2 : narB x 32 = (narV f32 x).isSome := rfl
    rw [e1, e2, hV, Option.getD_some, Option.isSome_some, hPL, hq]
    exact ⟨hv, rfl⟩)
  clear hV hv hql hq hs2 hrm h9 h2 hx hs he' hf hFl hEl hPL hPL2 hmk' hfr hlo hpow h4 hl63
  go_enter Tryz.func137, Tryz.ntmps137
  go_wp2
  refine wp_scope_jumps 0 (fun _ _ => False) (fun _ _ => 0) rfl ?first (fun _ _ h => h.elim)
  case first =>
    go_wp2_with fail
    refine (wide_calls _).mono ?_
    rintro e w1 ⟨rfl, hb1⟩
    have hW1 := hb1
    have hG2 := Cls.new w1 167 [.int .i64 52, .int .i64 11, .int .i64 64]
    have hW2 := hW1.alloc hW1.size (.cells #[.int .i64 52, .int .i64 11, .int .i64 64] 167)
    go_wp2_with fail
    generalize w1.alloc (.cells #[.int .i64 52, .int .i64 11, .int .i64 64] 167) = V3 at *
    refine (hof _).mono ?_
    rintro e w4 ⟨rfl, hb4⟩
    have hW4 := hW2.trans (hb4.mono hW2.size)
    have hG4 := hG2.below hb4
    have hG5 := hG4.alloc (.cells #[.int .i64 23, .int .i64 8, .int .i64 32] 167)
    have hF5 := Cls.new w4 167 [.int .i64 23, .int .i64 8, .int .i64 32]
    have hW5 := hW4.alloc hW4.size (.cells #[.int .i64 23, .int .i64 8, .int .i64 32] 167)
    have G_0 := hG5.cell 0 rfl
    have G_1 := hG5.cell 1 rfl
    have G_2 := hG5.cell 2 rfl
    have F_0 := hF5.cell 0 rfl
    have F_1 := hF5.cell 1 rfl
    have F_2 := hF5.cell 2 rfl
    go_wp2_with fail
    generalize w4.alloc (.cells #[.int .i64 23, .int .i64 8, .int .i64 32] 167) = V6 at *
    clear G_0 G_1 G_2
    clear F_0 F_1 F_2
    refine (hparts _).mono ?_
    rintro e w7 ⟨rfl, hb7⟩
    have hW7 := hW5.trans (hb7.mono hW5.size)
    have hG7 := hG5.below hb7
    have hF7 := hF5.below hb7
    have G_0 := hG7.cell 0 rfl
    have G_1 := hG7.cell 1 rfl
    have G_2 := hG7.cell 2 rfl
    have F_0 := hF7.cell 0 rfl
    have F_1 := hF7.cell 1 rfl
    have F_2 := hF7.cell 2 rfl
    go_upto_region 10 with fail
    go_cut [14] (fun v wx => v = .int .i64 ee ∧ Cls wx (w1.heap.size) 167 [.int .i64 52, .int .i64 11, .int .i64 64] ∧ Cls wx (w4.heap.size) 167 [.int .i64 23, .int .i64 8, .int .i64 32] ∧ Below w.heap.size w wx)
    case first =>
      have hGG := hG7
      have hFF := hF7
      have hWW := hW7
      go_region_held3 (fun w' => w'.cell? ⟨w1.heap.size, 0, none⟩ = some (.int .i64 52) ∧ w'.cell? ⟨w1.heap.size, 1, none⟩ = some (.int .i64 11) ∧ w'.cell? ⟨w1.heap.size, 2, none⟩ = some (.int .i64 64) ∧ w'.cell? ⟨w4.heap.size, 0, none⟩ = some (.int .i64 23) ∧ w'.cell? ⟨w4.heap.size, 1, none⟩ = some (.int .i64 8) ∧ w'.cell? ⟨w4.heap.size, 2, none⟩ = some (.int .i64 32) ∧ Cls w' (w1.heap.size) 167 [.int .i64 52, .int .i64 11, .int .i64 64] ∧ Cls w' (w4.heap.size) 167 [.int .i64 23, .int .i64 8, .int .i64 32] ∧ Below w.heap.size w w')
        (first
          | (refine ⟨?_, ?_, ?_, ?_, ?_, ?_, ?_, ?_, ?_⟩ <;> first | assumption | exact cell_below (by assumption) hbX | exact Cls.below (by assumption) hbX | exact below_nextF (by assumption) hbX | exact Below.drew (by assumption))
          | go_keep
          | (go_split_ands
             refine ⟨?_, ?_, ?_, ?_, ?_, ?_, ?_, ?_, ?_⟩ <;> first | assumption | exact cell_below (by assumption) hbX | exact Cls.below (by assumption) hbX | exact below_nextF (by assumption) hbX | exact Below.drew (by assumption)))
        (first
          | (go_at_call_of 134 (Value.agg #[.int .i64 23, .int .i64 8, .int .i64 32]); refine (bias32_calls _).mono ?_; rintro e wa ⟨rfl, hbX⟩)
          | (go_at_call_of 134 (Value.agg #[.int .i64 52, .int .i64 11, .int .i64 64]); refine (bias64_calls _).mono ?_; rintro e wc ⟨rfl, hbX⟩))
      all_goals (
        go_wp2_with fail
        go_meet
        go_split_ands
        exact ⟨rfl, by assumption, by assumption, by assumption⟩)
    case rest =>
      clear G_0 G_1 G_2
      clear F_0 F_1 F_2
      obtain ⟨rfl, hG9, hF9, hW9⟩ := hcut
      have G_0 := hG9.cell 0 rfl
      have G_1 := hG9.cell 1 rfl
      have G_2 := hG9.cell 2 rfl
      have F_0 := hF9.cell 0 rfl
      have F_1 := hF9.cell 1 rfl
      have F_2 := hF9.cell 2 rfl
      go_wp2_with (first | (go_at_call_of 132 (Value.int IntKind.i64 11); refine (ho11 _).mono ?_; rintro e v8 ⟨rfl, rfl⟩) | (go_at_call_of 132 (Value.int IntKind.i64 8); refine (hok _).mono ?_; rintro e v7 ⟨rfl, rfl⟩))
      go_quiet (fail)
      go_wp2_with fail
      have hFd : Cls (wc.drewN nq) (w4.heap.size) 167 [.int .i64 23, .int .i64 8, .int .i64 32] := hF9
      have hWd : Below w.heap.size w (wc.drewN nq) := belowN hW9 nq
      clear G_0 G_1 G_2
      clear F_0 F_1 F_2
      generalize wc.drewN nq = Zd at *
      have F_0 := hFd.cell 0 rfl
      have F_1 := hFd.cell 1 rfl
      have F_2 := hFd.cell 2 rfl
      refine (hoLo _).mono ?_
      rintro e v5 ⟨rfl, rfl⟩
      go_wp2_with fail
      go_region_held3 (fun w' => w'.cell? ⟨w4.heap.size, 0, none⟩ = some (.int .i64 23) ∧ w'.cell? ⟨w4.heap.size, 1, none⟩ = some (.int .i64 8) ∧ w'.cell? ⟨w4.heap.size, 2, none⟩ = some (.int .i64 32) ∧ Below w.heap.size w w')
        (first
          | (refine ⟨?_, ?_, ?_, ?_⟩ <;> first | assumption | exact cell_below (by assumption) hbX | exact below_nextF (by assumption) hbX | exact Below.drew (by assumption))
          | go_keep
          | (go_split_ands
             refine ⟨?_, ?_, ?_, ?_⟩ <;> first | assumption | exact cell_below (by assumption) hbX | exact below_nextF (by assumption) hbX | exact Below.drew (by assumption)))
        (first
          | (go_at_call 133; refine (hj _).mono ?_; rintro e wr ⟨rfl, hbX⟩))
      all_goals (
        go_wp2
        rw [jump_retF]
        go_ret2
        go_split_ands
        exact ⟨by rw [HR.out.1, HR.out.2] <;> rfl, by assumption⟩)

set_option maxRecDepth 100000 in
set_option maxHeartbeats 4000000 in
theorem narrow32_sub_no (x : Nat) (hx : x < 18446744073709551616) (h2 : x / 4503599627370496 % 2048 ≠ 2047) (h4 : 0 < x / 4503599627370496 % 2048 ∧ x / 4503599627370496 % 2048 + 127 ≤ 1023 ∧ 1023 < x / 4503599627370496 % 2048 + 127 + 23) (h9 : (x % 4503599627370496 + A64) % (536870912 * 2 ^ (1024 - 127 - x / 4503599627370496 % 2048)) ≠ 0) (w : World) :
    Calls Tryz.prog 137 #[.int .u64 x, .int .i64 32] w fun e w' => e = .returned (.tuple #[.int .u64 (narS x 32 : Nat), .bool (narB x 32)]) ∧ Below w.heap.size w w' := by
  have hof := fun W => fof_calls 32 W
  change ∀ W, Calls _ _ _ _ fun e w' => e = .returned (.tuple #[.agg #[.int .i64 23, .int .i64 8, .int .i64 32], .bool true]) ∧ _ at hof
  have heq := eqF32
  have hg := guardF
  have hparts := fun W => parts64_calls x hx W
  have hok := fun W => ones_calls 8 (by decide) W
  change ∀ W, Calls _ _ #[.int .i64 8] _ fun e w' => e = .returned (.int .u64 255) ∧ _ at hok
  have ho11 := fun W => ones_calls 11 (by decide) W
  change ∀ W, Calls _ _ #[.int .i64 11] _ fun e w' => e = .returned (.int .u64 2047) ∧ _ at ho11
  have hoL := fun W => ones_calls 29 (by decide) W
  change ∀ W, Calls _ _ #[.int .i64 29] _ fun e w' => e = .returned (.int .u64 536870911) ∧ _ at hoL
  have hs2 : x / 9223372036854775808 < 2 := by omega
  rw [show x / 9223372036854775808 % 2 = x / 9223372036854775808 from Nat.mod_eq_of_lt hs2] at hparts
  obtain ⟨s, hs⟩ : ∃ s, x / 9223372036854775808 = s := ⟨_, rfl⟩
  obtain ⟨E, he'⟩ : ∃ e, x / 4503599627370496 % 2048 = e := ⟨_, rfl⟩
  obtain ⟨F, hf⟩ : ∃ f, x % 4503599627370496 = f := ⟨_, rfl⟩
  have hFl : F < 4503599627370496 := by omega
  have hEl : E < 2048 := by omega
  rw [hs, he', hf] at hparts
  rw [hs] at hs2
  obtain ⟨y1, hy1⟩ : ∃ y : Int, (E : Int) - 1023 = y := ⟨_, rfl⟩
  obtain ⟨ee, hee⟩ : ∃ y : Int, y1 + 127 = y := ⟨_, rfl⟩
  have hyw : IntKind.i64.wrap y1 = y1 := IntWalk.i64_in _ (by omega)
  have hye : IntKind.i64.wrap ee = ee := IntWalk.i64_in _ (by omega)
  have hw3 : IntKind.i64.wrap 255 = 255 := by decide
  have hw4 : IntKind.i64.wrap 2047 = 2047 := by decide
  have hV : narV f32 x = narV f32 x := rfl
  conv at hV => rhs; unfold narV
  simp only [show x / C64 = s from hs, show x / A64 % 2048 = E from he', show x % A64 = F from hf] at hV
  rw [he'] at h2 h4 h9
  rw [hf] at h9
  rw [if_neg h2, if_neg (by omega), if_neg (show ¬ (1023 < E + f32.bias ∧ E + f32.bias < 1023 + f32.B - 1) from fun h => by have : f32.bias = 127 := rfl; omega), if_pos (show 0 < E ∧ E + f32.bias ≤ 1023 ∧ 1023 < E + f32.bias + f32.p from h4)] at hV
  change narV f32 x = (if (F + A64) % (536870912 * 2 ^ (1024 - 127 - E)) = 0 then some (s * 2147483648 + (F + A64) / (536870912 * 2 ^ (1024 - 127 - E))) else none) at hV
  obtain ⟨lo, hlo⟩ : ∃ lo, 29 + (1024 - 127 - E) = lo := ⟨_, rfl⟩
  have hpow : 536870912 * 2 ^ (1024 - 127 - E) = 2 ^ lo := by rw [← hlo, Nat.pow_add]
  rw [hpow] at hV h9
  rw [if_neg h9] at hV
  obtain ⟨fr, hfr⟩ : ∃ v, F + 4503599627370496 = v := ⟨_, rfl⟩
  rw [show F + A64 = fr from hfr] at h9
  have hl63 : lo ≤ 63 := by omega
  have hoLo := fun W => ones_calls lo hl63 W
  have hand := and_mask (x := fr) (n := lo) (by omega) ((2 ^ lo - 1 : Nat) : Int) rfl hl63
  obtain ⟨mk', hmk'⟩ : ∃ v, 2 ^ lo - 1 = v := ⟨_, rfl⟩
  rw [hmk'] at hoLo hand
  obtain ⟨rm, hrm⟩ : ∃ r, fr % 2 ^ lo = r := ⟨_, rfl⟩
  rw [hrm] at hand h9
  have hor2 := or_52 hFl
  rw [hfr] at hor2
  have t0 : ((E : Int) == 2047) = false := by rw [beq_eq_false_iff_ne]; omega
  have t1 : ((E : Int) == 0) = false := by rw [beq_eq_false_iff_ne]; omega
  have t2 : (0 : Int) < (E : Int) := by omega
  have t3 : ee ≤ 0 := by omega
  have t4 : -23 < ee := by omega
  have t5 : ¬ 0 < ee := by omega
  have hlo1 : 30 - ee = (lo : Int) := by omega
  have hlow : IntKind.i64.wrap (lo : Int) = (lo : Int) := IntWalk.i64_in _ (by omega)
  have hlo64 : (lo : Int) ≤ 64 := by omega
  have hw52 : IntKind.u64.wrap 4503599627370496 = 4503599627370496 := by decide
  have hwsh : IntKind.i64.wrap 30 = 30 := by decide
  have hwp : IntKind.i64.wrap (-23) = -23 := by decide
  obtain ⟨PL, hPL⟩ : ∃ v : Nat, 2 ^ lo = v := ⟨_, rfl⟩
  have hPLi : (2 : Int) ^ lo = (PL : Int) := by rw [pow_cast, hPL]
  have hPL2 : 1073741824 ≤ PL := by rw [← hPL]; exact Nat.le_trans (by decide) (pow_le (show 30 ≤ lo by omega))
  have t9 : ((rm : Int) != 0) = true := by rw [bne_iff_ne]; omega
  have HR := hid (show narS x 32 = 0 ∧ narB x 32 = false by
    have e1 : narS x 32 = (narV f32 x).getD 0 := rfl
    have e2 : narB x 32 = (narV f32 x).isSome := rfl
    rw [e1, e2, hV]
    exact ⟨rfl, rfl⟩)
  clear hV hs2 hrm h9 h2 hx hs he' hf hFl hEl hPL hPL2 hmk' hfr hlo hpow h4 hl63
  go_enter Tryz.func137, Tryz.ntmps137
  go_wp2
  refine wp_scope_jumps 0 (JumpF w) (fun _ _ => 0) rfl ?first ?pass
  case pass =>
    rintro ⟨tmps, defers⟩ w' ⟨h1, h2, hb⟩
    change defers = [] at h1
    change tmps.size = 119 at h2
    subst h1
    go_wp2
    rw [jump_retF]
    exact bodyPost_ret (v := .tuple #[.int .u64 0, .bool false]) (by simp [results, Tryz.results137, go_sem, h2]) rfl ⟨by rw [HR.out.1, HR.out.2] <;> rfl, hb⟩
  case first =>
    go_wp2_with fail
    refine (wide_calls _).mono ?_
    rintro e w1 ⟨rfl, hb1⟩
    have hW1 := hb1
    have hG2 := Cls.new w1 167 [.int .i64 52, .int .i64 11, .int .i64 64]
    have hW2 := hW1.alloc hW1.size (.cells #[.int .i64 52, .int .i64 11, .int .i64 64] 167)
    go_wp2_with fail
    generalize w1.alloc (.cells #[.int .i64 52, .int .i64 11, .int .i64 64] 167) = V3 at *
    refine (hof _).mono ?_
    rintro e w4 ⟨rfl, hb4⟩
    have hW4 := hW2.trans (hb4.mono hW2.size)
    have hG4 := hG2.below hb4
    have hG5 := hG4.alloc (.cells #[.int .i64 23, .int .i64 8, .int .i64 32] 167)
    have hF5 := Cls.new w4 167 [.int .i64 23, .int .i64 8, .int .i64 32]
    have hW5 := hW4.alloc hW4.size (.cells #[.int .i64 23, .int .i64 8, .int .i64 32] 167)
    have G_0 := hG5.cell 0 rfl
    have G_1 := hG5.cell 1 rfl
    have G_2 := hG5.cell 2 rfl
    have F_0 := hF5.cell 0 rfl
    have F_1 := hF5.cell 1 rfl
    have F_2 := hF5.cell 2 rfl
    go_wp2_with fail
    generalize w4.alloc (.cells #[.int .i64 23, .int .i64 8, .int .i64 32] 167) = V6 at *
    clear G_0 G_1 G_2
    clear F_0 F_1 F_2
    refine (hparts _).mono ?_
    rintro e w7 ⟨rfl, hb7⟩
    have hW7 := hW5.trans (hb7.mono hW5.size)
    have hG7 := hG5.below hb7
    have hF7 := hF5.below hb7
    have G_0 := hG7.cell 0 rfl
    have G_1 := hG7.cell 1 rfl
    have G_2 := hG7.cell 2 rfl
    have F_0 := hF7.cell 0 rfl
    have F_1 := hF7.cell 1 rfl
    have F_2 := hF7.cell 2 rfl
    go_upto_region 10 with fail
    go_cut [14] (fun v wx => v = .int .i64 ee ∧ Cls wx (w1.heap.size) 167 [.int .i64 52, .int .i64 11, .int .i64 64] ∧ Cls wx (w4.heap.size) 167 [.int .i64 23, .int .i64 8, .int .i64 32] ∧ Below w.heap.size w wx)
    case first =>
      have hGG := hG7
      have hFF := hF7
      have hWW := hW7
      go_region_held3 (fun w' => w'.cell? ⟨w1.heap.size, 0, none⟩ = some (.int .i64 52) ∧ w'.cell? ⟨w1.heap.size, 1, none⟩ = some (.int .i64 11) ∧ w'.cell? ⟨w1.heap.size, 2, none⟩ = some (.int .i64 64) ∧ w'.cell? ⟨w4.heap.size, 0, none⟩ = some (.int .i64 23) ∧ w'.cell? ⟨w4.heap.size, 1, none⟩ = some (.int .i64 8) ∧ w'.cell? ⟨w4.heap.size, 2, none⟩ = some (.int .i64 32) ∧ Cls w' (w1.heap.size) 167 [.int .i64 52, .int .i64 11, .int .i64 64] ∧ Cls w' (w4.heap.size) 167 [.int .i64 23, .int .i64 8, .int .i64 32] ∧ Below w.heap.size w w')
        (first
          | (refine ⟨?_, ?_, ?_, ?_, ?_, ?_, ?_, ?_, ?_⟩ <;> first | assumption | exact cell_below (by assumption) hbX | exact Cls.below (by assumption) hbX | exact below_nextF (by assumption) hbX | exact Below.drew (by assumption))
          | go_keep
          | (go_split_ands
             refine ⟨?_, ?_, ?_, ?_, ?_, ?_, ?_, ?_, ?_⟩ <;> first | assumption | exact cell_below (by assumption) hbX | exact Cls.below (by assumption) hbX | exact below_nextF (by assumption) hbX | exact Below.drew (by assumption)))
        (first
          | (go_at_call_of 134 (Value.agg #[.int .i64 23, .int .i64 8, .int .i64 32]); refine (bias32_calls _).mono ?_; rintro e wa ⟨rfl, hbX⟩)
          | (go_at_call_of 134 (Value.agg #[.int .i64 52, .int .i64 11, .int .i64 64]); refine (bias64_calls _).mono ?_; rintro e wc ⟨rfl, hbX⟩))
      all_goals (
        go_wp2_with fail
        go_meet
        go_split_ands
        exact ⟨rfl, by assumption, by assumption, by assumption⟩)
    case rest =>
      clear G_0 G_1 G_2
      clear F_0 F_1 F_2
      obtain ⟨rfl, hG9, hF9, hW9⟩ := hcut
      have G_0 := hG9.cell 0 rfl
      have G_1 := hG9.cell 1 rfl
      have G_2 := hG9.cell 2 rfl
      have F_0 := hF9.cell 0 rfl
      have F_1 := hF9.cell 1 rfl
      have F_2 := hF9.cell 2 rfl
      go_wp2_with (first | (go_at_call_of 132 (Value.int IntKind.i64 11); refine (ho11 _).mono ?_; rintro e v8 ⟨rfl, rfl⟩) | (go_at_call_of 132 (Value.int IntKind.i64 8); refine (hok _).mono ?_; rintro e v7 ⟨rfl, rfl⟩))
      go_quiet (fail)
      go_wp2_with fail
      have hFd : Cls (wc.drewN nq) (w4.heap.size) 167 [.int .i64 23, .int .i64 8, .int .i64 32] := hF9
      have hWd : Below w.heap.size w (wc.drewN nq) := belowN hW9 nq
      clear G_0 G_1 G_2
      clear F_0 F_1 F_2
      generalize wc.drewN nq = Zd at *
      have F_0 := hFd.cell 0 rfl
      have F_1 := hFd.cell 1 rfl
      have F_2 := hFd.cell 2 rfl
      refine (hoLo _).mono ?_
      rintro e v5 ⟨rfl, rfl⟩
      go_wp2_with fail
      go_step3
      go_wp2
      exact ⟨rfl, rfl, rfl, hWd⟩
end Go.Proofs.YtpjlepkdiaohiaaGreatDoor

/- Package float: Narrow whole, Least: walked. -/
namespace Go.Proofs.YtpjlepkdiaohiaaGreatDoor
open Go.RowKit Go.Shelf
attribute [local go_sem] Oper.semAt_some

theorem nar_none {m : Fm} {x : Nat} (h2 : ¬ x / A64 % 2048 = 2047) (h3 : ¬ (x / A64 % 2048 = 0 ∧ x % A64 = 0)) (h4 : ¬ (1023 < x / A64 % 2048 + m.bias ∧ x / A64 % 2048 + m.bias < 1023 + m.B - 1))
    (h5 : ¬ (0 < x / A64 % 2048 ∧ x / A64 % 2048 + m.bias ≤ 1023 ∧ 1023 < x / A64 % 2048 + m.bias + m.p)) : narV m x = none := by
  unfold narV
  simp only []
  rw [if_neg h2, if_neg h3, if_neg h4, if_neg h5]

theorem narrow_calls (b : Nat) (hb : b < 18446744073709551616) (x : Int) (w : World) :
    Calls Tryz.prog 137 #[.int .u64 b, .int .i64 x] w fun e w' => e = .returned (.tuple #[.int .u64 (narS b x : Nat), .bool (narB b x)]) ∧ Below w.heap.size w w' := by
  cases hx : isW x with
  | false =>
    have h0 : narS b x = 0 ∧ narB b x = false := by
      unfold isW at hx
      rw [Bool.or_eq_false_iff, Bool.or_eq_false_iff, decide_eq_false_iff_not, decide_eq_false_iff_not, decide_eq_false_iff_not] at hx
      unfold narS narB fmOf
      rw [if_neg hx.2.2, if_neg hx.2.2, if_neg hx.1, if_neg hx.2.1]
      exact ⟨rfl, rfl⟩
    rw [h0.1, h0.2]
    exact narrow_none b x hx w
  | true =>
    rcases isW_cases hx with rfl | rfl | rfl
    · by_cases h2 : b / 4503599627370496 % 2048 = 2047
      · by_cases h9 : b % 4503599627370496 % 4398046511104 = 0
        · exact narrow16_top_ok b hb h2 h9 w
        · exact narrow16_top_no b hb h2 h9 w
      · by_cases h3 : b / 4503599627370496 % 2048 = 0 ∧ b % 4503599627370496 = 0
        · exact narrow16_zero_ok b hb h3 w
        · by_cases h4 : 1023 < b / 4503599627370496 % 2048 + 15 ∧ b / 4503599627370496 % 2048 + 15 < 1023 + 32 - 1
          · by_cases h9 : b % 4503599627370496 % 4398046511104 = 0
            · exact narrow16_main_ok b hb h2 h4 h9 w
            · exact narrow16_main_no b hb h2 h4 h9 w
          · by_cases h5 : 0 < b / 4503599627370496 % 2048 ∧ b / 4503599627370496 % 2048 + 15 ≤ 1023 ∧ 1023 < b / 4503599627370496 % 2048 + 15 + 10
            · by_cases h9 : (b % 4503599627370496 + A64) % (4398046511104 * 2 ^ (1024 - 15 - b / 4503599627370496 % 2048)) = 0
              · exact narrow16_sub_ok b hb h2 h5 h9 w
              · exact narrow16_sub_no b hb h2 h5 h9 w
            · exact narrow16_far b hb (nar_none h2 h3 h4 h5) h2 h3 h4 h5 w
    · by_cases h2 : b / 4503599627370496 % 2048 = 2047
      · by_cases h9 : b % 4503599627370496 % 536870912 = 0
        · exact narrow32_top_ok b hb h2 h9 w
        · exact narrow32_top_no b hb h2 h9 w
      · by_cases h3 : b / 4503599627370496 % 2048 = 0 ∧ b % 4503599627370496 = 0
        · exact narrow32_zero_ok b hb h3 w
        · by_cases h4 : 1023 < b / 4503599627370496 % 2048 + 127 ∧ b / 4503599627370496 % 2048 + 127 < 1023 + 256 - 1
          · by_cases h9 : b % 4503599627370496 % 536870912 = 0
            · exact narrow32_main_ok b hb h2 h4 h9 w
            · exact narrow32_main_no b hb h2 h4 h9 w
          · by_cases h5 : 0 < b / 4503599627370496 % 2048 ∧ b / 4503599627370496 % 2048 + 127 ≤ 1023 ∧ 1023 < b / 4503599627370496 % 2048 + 127 + 23
            · by_cases h9 : (b % 4503599627370496 + A64) % (536870912 * 2 ^ (1024 - 127 - b / 4503599627370496 % 2048)) = 0
              · exact narrow32_sub_ok b hb h2 h5 h9 w
              · exact narrow32_sub_no b hb h2 h5 h9 w
            · exact narrow32_far b hb (nar_none h2 h3 h4 h5) h2 h3 h4 h5 w
    · exact narrow_64 b w

/-- what lies in memory while the least width is looked for. -/
structure LeI (w : World) (b : Nat) (y : Int) (W : World) : Prop where
  arg : Boxed W w.heap.size 24 (.int .u64 b)
  res : Boxed W (w.heap.size + 1) 3 (.int .i64 y)
  below : Below w.heap.size w W
  size : w.heap.size + 2 ≤ W.heap.size
theorem LeI.next {w : World} {b : Nat} {y : Int} {A B : World} (h : LeI w b y A) (hk : CellsKept A B) (hb : Below w.heap.size A B) : LeI w b y B :=
  ⟨hk.boxed h.arg, hk.boxed h.res, h.below.trans hb, Nat.le_trans h.size hb.size⟩
theorem LeI.below' {w : World} {b : Nat} {y : Int} {A B : World} (h : LeI w b y A) (hb : Below A.heap.size A B) : LeI w b y B :=
  h.next (CellsKept.below hb) (hb.mono h.below.size)
theorem nar64 (b : Nat) : narB b 64 = true := rfl
theorem least_at {b k : Nat} (hk : k < 3) (h : narB b (fw k) = true) (hp : ∀ j, j < k → narB b (fw j) = false) : leastS b = fw k := by
  have e1 : narB b 16 = (narV f16 b).isSome := rfl
  have e2 : narB b 32 = (narV f32 b).isSome := rfl
  unfold leastS
  rcases (show k = 0 ∨ k = 1 ∨ k = 2 by omega) with rfl | rfl | rfl
  · rw [if_pos (e1.symm.trans h)]; rfl
  · have h0 : (narV f16 b).isSome = false := e1.symm.trans (hp 0 (by omega))
    rw [h0, if_neg (by decide), if_pos (e2.symm.trans h)]; rfl
  · have h0 : (narV f16 b).isSome = false := e1.symm.trans (hp 0 (by omega))
    have h1 : (narV f32 b).isSome = false := e2.symm.trans (hp 1 (by omega))
    rw [h0, h1, if_neg (by decide), if_neg (by decide)]; rfl

set_option maxRecDepth 100000 in
set_option maxHeartbeats 4000000 in
theorem least_calls (b : Nat) (hb : b < 18446744073709551616) (w : World) :
    Calls Tryz.prog 95 #[.int .u64 b] w fun e w' => e = .returned (.int .i64 (leastS b)) ∧ Below w.heap.size w w' := by
  have hprog : Tryz.prog.follows .mixedOrders = true := by kernel_rfl
  have hnar := fun y W => narrow_calls b hb y W
  refine calls_marks Tryz.func95 rfl ?_
  simp only [Tryz.ntmps95, List.size_toArray, List.length_cons, List.length_nil, Nat.reduceAdd, Nat.reduceSub, Array.replicate_succ, Array.replicate_zero, List.push_toArray, List.append_toArray, List.nil_append, List.cons_append]
  go_wp2_with fail
  refine (widths_calls _).mono ?_
  rintro e v1 ⟨rfl, rfl⟩
  go_wp2
  obtain ⟨W0, hW0, hsz0, hI0⟩ : ∃ W0, ((w.alloc (.cells #[.int .u64 b] 24)).alloc (.cells #[.int .i64 0] 3)) = W0 ∧ W0.heap.size = w.heap.size + 2 ∧ LeI w b 0 W0 := by
    have b1 := Boxed.new w 24 (.int .u64 b)
    have b2 := Boxed.new (w.alloc (.cells #[.int .u64 b] 24)) 3 (.int .i64 0)
    have hA := (below_alloc w (.cells #[.int .u64 b] 24)).alloc (by simp) (.cells #[.int .i64 0] 3)
    simp only [World.size_alloc] at b2
    exact ⟨_, rfl, by simp, ⟨b1.alloc _, b2, hA, by simp⟩⟩
  rw [hW0]
  clear hW0
  refine rangeOverP (gf := 159) (lb := #[]) rfl (enters_of Tryz.func159 (by kernel_rfl) rfl)
    (widths_iter W0) (Below.refl _ _) (fun _ => rfl)
    (fun A B h => ⟨h.size, fun k o _ h1 _ => (h.block k (Array.getElem?_eq_some_iff.1 h1).1).trans h1⟩) (fun h k => h.trans k) (fun W l o o' hl h hc hw => KeepsWalks.putObj o' h hw)
    (ownFrom_pure _ _) (ownFrom_pure _ _)
    (fun pre W => LeI w b 0 W ∧ ∀ j, j < pre.length → narB b (fw j) = false) (fun c pre W => c = .ret ∧ ∃ k, k < 3 ∧ narB b (fw k) = true ∧ (∀ j, j < k → narB b (fw j) = false) ∧ LeI w b (fw k) W) ?hI (fun _ => ?hIx) ?hII ?hIxI ⟨hI0, fun j hj => absurd hj (Nat.not_lt_zero _)⟩
    (fun i a' W => ∃ q, W0.heap.size ≤ q ∧ q < W.heap.size ∧ Cls W q 167 (formL (fp i) (fk i) (fw i)) ∧ a' = { tmps := #[.int .u64 b, .pointer (some ⟨w.heap.size, 0, none⟩), .pointer (some ⟨w.heap.size + 1, 0, none⟩), .pointer (some ⟨q, 0, none⟩), undef, undef, .func (.func 159) #[] #[], .agg #[.int .i64 (fp i), .int .i64 (fk i), .int .i64 (fw i)], undef, undef, undef, undef, undef, undef, undef, undef, undef, undef], defers := [] })
    ?hAx ?assign ?body ?done ?stop
  case hI => exact ownFrom_of (fun s W W' ⟨h, h2⟩ hk hb => ⟨h.next hk (hb.mono (by omega)), h2⟩) (fun s W h => by rw [hsz0]; exact h.1.size)
  case hIx => exact ownFrom_of (fun s W W' ⟨h, k, h1, h2, h3, h4⟩ hk hb => ⟨h, k, h1, h2, h3, h4.next hk (hb.mono (by omega))⟩) (fun s W ⟨h, k, h1, h2, h3, h4⟩ => by rw [hsz0]; exact h4.size)
  case hII => exact fun s A B ⟨h, h2⟩ hb => ⟨h.below' hb, h2⟩
  case hIxI => exact fun c s A B ⟨h, k, h1, h2, h3, h4⟩ hb => ⟨h, k, h1, h2, h3, h4.below' hb⟩
  case hAx => exact fun i a' => ownFrom_of (fun s W W' ⟨q, h1, h2, h3, h4⟩ hk hb => ⟨q, h1, Nat.lt_of_lt_of_le h2 hb.size, hk.cls h3, h4⟩) (fun s W ⟨q, h1, h2, h3, h4⟩ => by omega)
  case assign =>
    rintro l pre i W K ⟨hi, hp⟩ hok hK
    clear hok hnar
    unfold encF
    have hA := below_alloc W (.cells #[.int .i64 (fp i), .int .i64 (fk i), .int .i64 (fw i)] 167)
    have hC := Cls.new W 167 (formL (fp i) (fk i) (fw i))
    have hs := hi.size
    have HX := hid (And.intro hA (And.intro hC (And.intro hs (And.intro hi hp))))
    clear hA hC hi hp hs
    gi_wp2
    obtain ⟨hA, hC, hs, hi, hp⟩ := HX.out
    exact hK _ _ ((KeepsOthers.alloc W _).from _) (KeepsWalks.alloc W _) ⟨hi.below' hA, hp⟩ ⟨W.heap.size, by omega, by simp, hC, rfl⟩
  case body =>
    rintro l pre i a' W hl ⟨hi, hp⟩ ⟨q, hq1, hq2, hC, rfl⟩ ⟨hi1, hi2⟩
    have hn := hnar (fw i)
    have c0 := hC.cell 0 rfl
    have c1 := hC.cell 1 rfl
    have c2 := hC.cell 2 rfl
    have e0 := hi.arg.cell
    obtain ⟨nb, hnb⟩ : ∃ nb, narB b (fw i) = nb := ⟨_, rfl⟩
    obtain ⟨ns, hns⟩ : ∃ ns, narS b (fw i) = ns := ⟨_, rfl⟩
    rw [hnb, hns] at hn
    have HX := hid (And.intro hi (And.intro hp (And.intro hnb (And.intro hi1 (And.intro hi2 (And.intro hq1 (And.intro hsz0 (And.intro hC hq2))))))))
    clear hi hp hnb hns hi1 hC hnar
    gi_wp2
    refine callW (hn _) ?_
    rintro e W1 ⟨rfl, hb1⟩
    obtain ⟨hi, hp, hnb, hi1, hi2', hq1', hsz0', hC, hq2'⟩ := HX.out
    have hiN := hi.below' hb1
    have hCN := hC.below hb1
    have HY := hid (And.intro hiN (And.intro hb1 hCN))
    clear c0 c1 c2 e0 hi hp hnb hi1 hi2' hq1' hsz0' hC hq2'
    have c0 := hCN.cell 0 rfl
    have c1 := hCN.cell 1 rfl
    have c2 := hCN.cell 2 rfl
    have s0 := hiN.res.cell
    have sz := hiN.res.frozen
    clear hiN hb1 hCN
    cases nb with
    | true =>
      gi_wp2
      obtain ⟨hi, hp, hnb, hi1, hi2', hq1', hsz0', hC, hq2'⟩ := HX.out
      obtain ⟨hiN, hb1, hCN⟩ := HY.out
      have n1 : w.heap.size ≠ w.heap.size + 1 := by omega
      refine ⟨((keeps_below hb1).trans (KeepsOthers.setCell _ _ _)).from _, rfl, i, hi2, hnb, fun j hj => hp j (by omega), ?_⟩
      exact ⟨boxed_other hiN.arg n1 _, hiN.res.set (.int .i64 (fw i)), hiN.below.setCell (p := ⟨w.heap.size + 1, 0, none⟩) (by show w.heap.size ≤ w.heap.size + 1; omega) _, by rw [setCell_size]; exact hiN.size⟩
    | false =>
      gi_wp2
      obtain ⟨hi, hp, hnb, hi1, hi2', hq1', hsz0', hC, hq2'⟩ := HX.out
      obtain ⟨hiN, hb1, hCN⟩ := HY.out
      refine ⟨(keeps_below hb1).from _, (keeps_below hb1).walks, hiN, fun j hj => ?_⟩
      rw [List.length_append, List.length_singleton] at hj
      by_cases hj2 : j < pre.length
      · exact hp j hj2
      · obtain rfl : j = i := by omega
        exact hnb
  case done =>
    rintro D xs W hD hxl ⟨hi, hp⟩ hK
    have h64 := hp 2 (by omega)
    have : narB b 64 = false := h64
    rw [nar64] at this
    cases this
  case stop =>
    rintro D c pre W hD - ⟨rfl, k, hk, hx, hxp, hi⟩ hK
    have hr := hid (least_at hk hx hxp)
    have r0 := hi.res.cell
    have rz0 := hi.res.frozen
    have HX := hid (And.intro hi (And.intro hsz0 (And.intro hD hK)))
    clear hi hx hxp hK hD hnar
    go_wp2
    obtain ⟨hi, hsz, hD, hK⟩ := HX.out
    have hR2 : ∀ o, Boxed (W.putObj D o) (w.heap.size + 1) 3 (.int .i64 (fw k)) := fun o => (World.putObj_heap_other (by omega)).trans hi.res
    refine ⟨by simp, .inl ⟨_, _, rfl, run_takeDeferred hK, ?_⟩⟩
    have f0 := (hR2 (.deferred none)).cell
    exact ⟨.int .i64 (fw k), by simp [results, Tryz.results95, go_sem, f0], by rw [hr.out], (belowK_b (w := w) (Nat.le_refl _) _ D _ _ (by omega) hK rfl rfl) |> hi.below.trans⟩
end Go.Proofs.YtpjlepkdiaohiaaGreatDoor

/- Plain: what the statements of targumlaw05 ask: widened and narrowed, back and forth. -/
namespace Go.Proofs.YtpjlepkdiaohiaaGreatDoor
open Go Go.RowKit

theorem ok_C {m : Fm} (hm : m.ok) : m.A * m.D = A64 ∧ 0 < m.D ∧ m.A * m.B = m.C ∧ m.bias ≤ 127 ∧ m.B ≤ 256 ∧ 0 < m.A ∧ 1 < m.B ∧ 2 * m.C ≤ 4294967296 ∧ 0 < m.C := by
  rcases hm with rfl | rfl <;> refine ⟨by decide, by decide, by decide, by decide, by decide, by decide, by decide, by decide, by decide⟩
theorem wid_lt (m : Fm) (hm : m.ok) {b : Nat} (hb : b < 2 * m.C) : widV m b < 18446744073709551616 := by
  obtain ⟨c1, c2, c3, c4, c5, c6, c7, c8, c9⟩ := ok_C hm
  have hF : b % m.A < m.A := Nat.mod_lt _ c6
  have hE : b / m.A % m.B < m.B := Nat.mod_lt _ (by omega)
  have hs : b / m.C < 2 := (Nat.div_lt_iff_lt_mul c9).2 hb
  have hj : ∀ s e f, s < 2 → e < 2048 → f < A64 → s * C64 + e * A64 + f < 18446744073709551616 := by
    intro s e f h1 h2 h3
    unfold A64 C64 at *
    omega
  have hj2 : ∀ s, s < 2 → s * C64 < 18446744073709551616 := by
    intro s h1
    unfold C64
    omega
  unfold widV
  split
  · exact hj _ _ _ hs (by omega) (by rw [← c1]; exact Nat.mul_lt_mul_of_pos_right hF c2)
  · split
    · split
      · exact hj2 _ hs
      · rename_i h0
        obtain ⟨u1, u2, u3, u4⟩ := up_spec m hm h0 hF
        refine hj _ _ _ hs (by omega) ?_
        rw [← c1]
        exact Nat.mul_lt_mul_of_pos_right (by omega) c2
    · exact hj _ _ _ hs (by omega) (by rw [← c1]; exact Nat.mul_lt_mul_of_pos_right hF c2)

theorem notW {b : Nat} {x : Int} (hx : isW x = false) : widS b x = 0 ∧ widE b x = 2 ∧ narS b x = 0 ∧ narB b x = false := by
  unfold isW at hx
  rw [Bool.or_eq_false_iff, Bool.or_eq_false_iff, decide_eq_false_iff_not, decide_eq_false_iff_not, decide_eq_false_iff_not] at hx
  unfold widS widE narS narB fmOf
  rw [if_neg hx.2.2, if_neg hx.2.2, if_neg hx.2.2, if_neg hx.2.2, if_neg hx.1, if_neg hx.2.1]
  exact ⟨rfl, rfl, rfl, rfl⟩

/-- the same for both lesser widths. -/
theorem fback_m (m : Fm) (hm : m.ok) {b : Nat} (hb : b < 18446744073709551616) :
    ((if b < 2 * m.C then (0 : Int) else 2) = 2 ∨ ((if b < 2 * m.C then (0 : Int) else 2) = 0 ∧ (narV m (if b < 2 * m.C then widV m b else 0)).isSome = true ∧ (narV m (if b < 2 * m.C then widV m b else 0)).getD 0 = b)) ∧
    ((narV m b).isSome = false ∨ ((narV m b).isSome = true ∧ (if (narV m b).getD 0 < 2 * m.C then (0 : Int) else 2) = 0 ∧ (if (narV m b).getD 0 < 2 * m.C then widV m ((narV m b).getD 0) else 0) = b)) ∧
    (if b < 2 * m.C then widV m b else 0) < 18446744073709551616 ∧ (narV m b).getD 0 < 18446744073709551616 := by
  obtain ⟨-, -, -, -, -, -, -, c8, -⟩ := ok_C hm
  refine ⟨?_, ?_, ?_, ?_⟩
  · by_cases h : b < 2 * m.C
    · rw [if_pos h, if_pos h, nar_wid m hm b h]; exact .inr ⟨rfl, rfl, rfl⟩
    · rw [if_neg h]; exact .inl rfl
  · cases h : narV m b with
    | none => exact .inl rfl
    | some v =>
      obtain ⟨h1, h2⟩ := nar_lt m hm hb h
      refine .inr ⟨rfl, ?_, ?_⟩
      · rw [Option.getD_some, if_pos h1]
      · rw [Option.getD_some, if_pos h1]; exact h2
  · split
    · rename_i h; exact wid_lt m hm h
    · decide
  · cases h : narV m b with
    | none => decide
    | some v =>
      obtain ⟨h1, h2⟩ := nar_lt m hm hb h
      rw [Option.getD_some]; omega

theorem widS_lt {b : Nat} (hb : b < 18446744073709551616) (w : Int) : widS b w < 18446744073709551616 := by
  cases hw : isW w with
  | false => rw [(notW hw).1]; decide
  | true =>
    rcases isW_cases hw with rfl | rfl | rfl
    · exact (fback_m f16 (.inl rfl) hb).2.2.1
    · exact (fback_m f32 (.inr rfl) hb).2.2.1
    · exact hb
end Go.Proofs.YtpjlepkdiaohiaaGreatDoor

