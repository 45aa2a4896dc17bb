/- Package float: Narrow whole, Least: walked. -/
import Derived.Test.YtfobaeoccpebeaaGreatDoorMG
import Derived.Test.YtfobaeoccpebeaaGreatDoorMH
import Derived.Test.YtfobaeoccpebeaaGreatDoorRows
import Derived.ProofKit
import Derived.LaidMore
import Derived.OpenShut
import Derived.Stop.Joined
import Derived.Stop.LaidErr
import Derived.Lib.LaidTab
import Derived.PinnedBridge
import Derived.Lay
import Derived.LaidOnce
import Derived.SevenTiedAt
import Derived.Test.YtfobaeoccpebeaaGreatDoorTie
import Derived.Test.YtfobaeoccpebeaaGreatDoorCards
import Derived.ChangeMaps5
namespace Go.Proofs.YtfobaeoccpebeaaGreatDoor
open Go.RowKit Go.Shelf
attribute [local go_sem] Oper.semAt_some

theorem nar_none {m : Fm} {x : Nat} (h2 : ¬ x / A64 % 2048 = 2047) (h3 : ¬ (x / A64 % 2048 = 0 ∧ x % A64 = 0)) (h4 : ¬ (1023 < x / A64 % 2048 + m.bias ∧ x / A64 % 2048 + m.bias < 1023 + m.B - 1))
    (h5 : ¬ (0 < x / A64 % 2048 ∧ x / A64 % 2048 + m.bias ≤ 1023 ∧ 1023 < x / A64 % 2048 + m.bias + m.p)) : narV m x = none := by
  unfold narV
  simp only []
  rw [if_neg h2, if_neg h3, if_neg h4, if_neg h5]

theorem narrow_calls (b : Nat) (hb : b < 18446744073709551616) (x : Int) (w : World) :
    Calls Tryz.prog 19 #[.int .u64 b, .int .i64 x] w fun e w' => e = .returned (.tuple #[.int .u64 (narS b x : Nat), .bool (narB b x)]) ∧ Below w.heap.size w w' := by
  cases hx : isW x with
  | false =>
    have h0 : narS b x = 0 ∧ narB b x = false := by
      unfold isW at hx
      rw [Bool.or_eq_false_iff, Bool.or_eq_false_iff, decide_eq_false_iff_not, decide_eq_false_iff_not, decide_eq_false_iff_not] at hx
      unfold narS narB fmOf
      rw [if_neg hx.2.2, if_neg hx.2.2, if_neg hx.1, if_neg hx.2.1]
      exact ⟨rfl, rfl⟩
    rw [h0.1, h0.2]
    exact narrow_none b x hx w
  | true =>
    rcases isW_cases hx with rfl | rfl | rfl
    · by_cases h2 : b / 4503599627370496 % 2048 = 2047
      · by_cases h9 : b % 4503599627370496 % 4398046511104 = 0
        · exact narrow16_top_ok b hb h2 h9 w
        · exact narrow16_top_no b hb h2 h9 w
      · by_cases h3 : b / 4503599627370496 % 2048 = 0 ∧ b % 4503599627370496 = 0
        · exact narrow16_zero_ok b hb h3 w
        · by_cases h4 : 1023 < b / 4503599627370496 % 2048 + 15 ∧ b / 4503599627370496 % 2048 + 15 < 1023 + 32 - 1
          · by_cases h9 : b % 4503599627370496 % 4398046511104 = 0
            · exact narrow16_main_ok b hb h2 h4 h9 w
            · exact narrow16_main_no b hb h2 h4 h9 w
          · by_cases h5 : 0 < b / 4503599627370496 % 2048 ∧ b / 4503599627370496 % 2048 + 15 ≤ 1023 ∧ 1023 < b / 4503599627370496 % 2048 + 15 + 10
            · by_cases h9 : (b % 4503599627370496 + A64) % (4398046511104 * 2 ^ (1024 - 15 - b / 4503599627370496 % 2048)) = 0
              · exact narrow16_sub_ok b hb h2 h5 h9 w
              · exact narrow16_sub_no b hb h2 h5 h9 w
            · exact narrow16_far b hb (nar_none h2 h3 h4 h5) h2 h3 h4 h5 w
    · by_cases h2 : b / 4503599627370496 % 2048 = 2047
      · by_cases h9 : b % 4503599627370496 % 536870912 = 0
        · exact narrow32_top_ok b hb h2 h9 w
        · exact narrow32_top_no b hb h2 h9 w
      · by_cases h3 : b / 4503599627370496 % 2048 = 0 ∧ b % 4503599627370496 = 0
        · exact narrow32_zero_ok b hb h3 w
        · by_cases h4 : 1023 < b / 4503599627370496 % 2048 + 127 ∧ b / 4503599627370496 % 2048 + 127 < 1023 + 256 - 1
          · by_cases h9 : b % 4503599627370496 % 536870912 = 0
            · exact narrow32_main_ok b hb h2 h4 h9 w
            · exact narrow32_main_no b hb h2 h4 h9 w
          · by_cases h5 : 0 < b / 4503599627370496 % 2048 ∧ b / 4503599627370496 % 2048 + 127 ≤ 1023 ∧ 1023 < b / 4503599627370496 % 2048 + 127 + 23
            · by_cases h9 : (b % 4503599627370496 + A64) % (536870912 * 2 ^ (1024 - 127 - b / 4503599627370496 % 2048)) = 0
              · exact narrow32_sub_ok b hb h2 h5 h9 w
              · exact narrow32_sub_no b hb h2 h5 h9 w
            · exact narrow32_far b hb (nar_none h2 h3 h4 h5) h2 h3 h4 h5 w
    · exact narrow_64 b w

/-- what lies in memory while the least width is looked for. -/
structure LeI (w : World) (b : Nat) (y : Int) (W : World) : Prop where
  arg : Boxed W w.heap.size 22 (.int .u64 b)
  res : Boxed W (w.heap.size + 1) 3 (.int .i64 y)
  below : Below w.heap.size w W
  size : w.heap.size + 2 ≤ W.heap.size
theorem LeI.next {w : World} {b : Nat} {y : Int} {A B : World} (h : LeI w b y A) (hk : CellsKept A B) (hb : Below w.heap.size A B) : LeI w b y B :=
  ⟨hk.boxed h.arg, hk.boxed h.res, h.below.trans hb, Nat.le_trans h.size hb.size⟩
theorem LeI.below' {w : World} {b : Nat} {y : Int} {A B : World} (h : LeI w b y A) (hb : Below A.heap.size A B) : LeI w b y B :=
  h.next (CellsKept.below hb) (hb.mono h.below.size)
theorem nar64 (b : Nat) : narB b 64 = true := rfl
theorem least_at {b k : Nat} (hk : k < 3) (h : narB b (fw k) = true) (hp : ∀ j, j < k → narB b (fw j) = false) : leastS b = fw k := by
  have e1 : narB b 16 = (narV f16 b).isSome := rfl
  have e2 : narB b 32 = (narV f32 b).isSome := rfl
  unfold leastS
  rcases (show k = 0 ∨ k = 1 ∨ k = 2 by omega) with rfl | rfl | rfl
  · rw [if_pos (e1.symm.trans h)]; rfl
  · have h0 : (narV f16 b).isSome = false := e1.symm.trans (hp 0 (by omega))
    rw [h0, if_neg (by decide), if_pos (e2.symm.trans h)]; rfl
  · have h0 : (narV f16 b).isSome = false := e1.symm.trans (hp 0 (by omega))
    have h1 : (narV f32 b).isSome = false := e2.symm.trans (hp 1 (by omega))
    rw [h0, h1, if_neg (by decide), if_neg (by decide)]; rfl

set_option maxRecDepth 100000 in
set_option maxHeartbeats 4000000 in
theorem least_calls (b : Nat) (hb : b < 18446744073709551616) (w : World) :
    Calls Tryz.prog 17 #[.int .u64 b] w fun e w' => e = .returned (.int .i64 (leastS b)) ∧ Below w.heap.size w w' := by
  have hprog : Tryz.prog.follows .mixedOrders = true := by kernel_rfl
  have hnar := fun y W => narrow_calls b hb y W
  refine calls_marks Tryz.func17 rfl ?_
  simp only [Tryz.ntmps17, List.size_toArray, List.length_cons, List.length_nil, Nat.reduceAdd, Nat.reduceSub, Array.replicate_succ, Array.replicate_zero, List.push_toArray, List.append_toArray, List.nil_append, List.cons_append]
  go_wp2_with fail
  refine (widths_calls _).mono ?_
  rintro e v1 ⟨rfl, rfl⟩
  go_wp2
  obtain ⟨W0, hW0, hsz0, hI0⟩ : ∃ W0, ((w.alloc (.cells #[.int .u64 b] 22)).alloc (.cells #[.int .i64 0] 3)) = W0 ∧ W0.heap.size = w.heap.size + 2 ∧ LeI w b 0 W0 := by
    have b1 := Boxed.new w 22 (.int .u64 b)
    have b2 := Boxed.new (w.alloc (.cells #[.int .u64 b] 22)) 3 (.int .i64 0)
    have hA := (below_alloc w (.cells #[.int .u64 b] 22)).alloc (by simp) (.cells #[.int .i64 0] 3)
    simp only [World.size_alloc] at b2
    exact ⟨_, rfl, by simp, ⟨b1.alloc _, b2, hA, by simp⟩⟩
  rw [hW0]
  clear hW0
  refine rangeOverP (gf := 73) (lb := #[]) rfl (enters_of Tryz.func73 (by kernel_rfl) rfl)
    (widths_iter W0) (Below.refl _ _) (fun _ => rfl)
    (fun A B h => ⟨h.size, fun k o _ h1 _ => (h.block k (Array.getElem?_eq_some_iff.1 h1).1).trans h1⟩) (fun h k => h.trans k) (fun W l o o' hl h hc hw => KeepsWalks.putObj o' h hw)
    (ownFrom_pure _ _) (ownFrom_pure _ _)
    (fun pre W => LeI w b 0 W ∧ ∀ j, j < pre.length → narB b (fw j) = false) (fun c pre W => c = .ret ∧ ∃ k, k < 3 ∧ narB b (fw k) = true ∧ (∀ j, j < k → narB b (fw j) = false) ∧ LeI w b (fw k) W) ?hI (fun _ => ?hIx) ?hII ?hIxI ⟨hI0, fun j hj => absurd hj (Nat.not_lt_zero _)⟩
    (fun i a' W => ∃ q, W0.heap.size ≤ q ∧ q < W.heap.size ∧ Cls W q 47 (formL (fp i) (fk i) (fw i)) ∧ a' = { tmps := #[.int .u64 b, .pointer (some ⟨w.heap.size, 0, none⟩), .pointer (some ⟨w.heap.size + 1, 0, none⟩), .pointer (some ⟨q, 0, none⟩), undef, undef, .func (.func 73) #[] #[], .agg #[.int .i64 (fp i), .int .i64 (fk i), .int .i64 (fw i)], undef, undef, undef, undef, undef, undef, undef, undef, undef, undef], defers := [] })
    ?hAx ?assign ?body ?done ?stop
  case hI => exact ownFrom_of (fun s W W' ⟨h, h2⟩ hk hb => ⟨h.next hk (hb.mono (by omega)), h2⟩) (fun s W h => by rw [hsz0]; exact h.1.size)
  case hIx => exact ownFrom_of (fun s W W' ⟨h, k, h1, h2, h3, h4⟩ hk hb => ⟨h, k, h1, h2, h3, h4.next hk (hb.mono (by omega))⟩) (fun s W ⟨h, k, h1, h2, h3, h4⟩ => by rw [hsz0]; exact h4.size)
  case hII => exact fun s A B ⟨h, h2⟩ hb => ⟨h.below' hb, h2⟩
  case hIxI => exact fun c s A B ⟨h, k, h1, h2, h3, h4⟩ hb => ⟨h, k, h1, h2, h3, h4.below' hb⟩
  case hAx => exact fun i a' => ownFrom_of (fun s W W' ⟨q, h1, h2, h3, h4⟩ hk hb => ⟨q, h1, Nat.lt_of_lt_of_le h2 hb.size, hk.cls h3, h4⟩) (fun s W ⟨q, h1, h2, h3, h4⟩ => by omega)
  case assign =>
    rintro l pre i W K ⟨hi, hp⟩ hok hK
    clear hok hnar
    unfold encF
    have hA := below_alloc W (.cells #[.int .i64 (fp i), .int .i64 (fk i), .int .i64 (fw i)] 47)
    have hC := Cls.new W 47 (formL (fp i) (fk i) (fw i))
    have hs := hi.size
    have HX := hid (And.intro hA (And.intro hC (And.intro hs (And.intro hi hp))))
    clear hA hC hi hp hs
    gi_wp2
    obtain ⟨hA, hC, hs, hi, hp⟩ := HX.out
    exact hK _ _ ((KeepsOthers.alloc W _).from _) (KeepsWalks.alloc W _) ⟨hi.below' hA, hp⟩ ⟨W.heap.size, by omega, by simp, hC, rfl⟩
  case body =>
    rintro l pre i a' W hl ⟨hi, hp⟩ ⟨q, hq1, hq2, hC, rfl⟩ ⟨hi1, hi2⟩
    have hn := hnar (fw i)
    have c0 := hC.cell 0 rfl
    have c1 := hC.cell 1 rfl
    have c2 := hC.cell 2 rfl
    have e0 := hi.arg.cell
    obtain ⟨nb, hnb⟩ : ∃ nb, narB b (fw i) = nb := ⟨_, rfl⟩
    obtain ⟨ns, hns⟩ : ∃ ns, narS b (fw i) = ns := ⟨_, rfl⟩
    rw [hnb, hns] at hn
    have HX := hid (And.intro hi (And.intro hp (And.intro hnb (And.intro hi1 (And.intro hi2 (And.intro hq1 (And.intro hsz0 (And.intro hC hq2))))))))
    clear hi hp hnb hns hi1 hC hnar
    gi_wp2
    refine callW (hn _) ?_
    rintro e W1 ⟨rfl, hb1⟩
    obtain ⟨hi, hp, hnb, hi1, hi2', hq1', hsz0', hC, hq2'⟩ := HX.out
    have hiN := hi.below' hb1
    have hCN := hC.below hb1
    have HY := hid (And.intro hiN (And.intro hb1 hCN))
    clear c0 c1 c2 e0 hi hp hnb hi1 hi2' hq1' hsz0' hC hq2'
    have c0 := hCN.cell 0 rfl
    have c1 := hCN.cell 1 rfl
    have c2 := hCN.cell 2 rfl
    have s0 := hiN.res.cell
    have sz := hiN.res.frozen
    clear hiN hb1 hCN
    cases nb with
    | true =>
      gi_wp2
      obtain ⟨hi, hp, hnb, hi1, hi2', hq1', hsz0', hC, hq2'⟩ := HX.out
      obtain ⟨hiN, hb1, hCN⟩ := HY.out
      have n1 : w.heap.size ≠ w.heap.size + 1 := by omega
      refine ⟨((keeps_below hb1).trans (KeepsOthers.setCell _ _ _)).from _, rfl, i, hi2, hnb, fun j hj => hp j (by omega), ?_⟩
      exact ⟨boxed_other hiN.arg n1 _, hiN.res.set (.int .i64 (fw i)), hiN.below.setCell (p := ⟨w.heap.size + 1, 0, none⟩) (by show w.heap.size ≤ w.heap.size + 1; omega) _, by rw [setCell_size]; exact hiN.size⟩
    | false =>
      gi_wp2
      obtain ⟨hi, hp, hnb, hi1, hi2', hq1', hsz0', hC, hq2'⟩ := HX.out
      obtain ⟨hiN, hb1, hCN⟩ := HY.out
      refine ⟨(keeps_below hb1).from _, (keeps_below hb1).walks, hiN, fun j hj => ?_⟩
      rw [List.length_append, List.length_singleton] at hj
      by_cases hj2 : j < pre.length
      · exact hp j hj2
      · obtain rfl : j = i := by omega
        exact hnb
  case done =>
    rintro D xs W hD hxl ⟨hi, hp⟩ hK
    have h64 := hp 2 (by omega)
    have : narB b 64 = false := h64
    rw [nar64] at this
    cases this
  case stop =>
    rintro D c pre W hD - ⟨rfl, k, hk, hx, hxp, hi⟩ hK
    have hr := hid (least_at hk hx hxp)
    have r0 := hi.res.cell
    have rz0 := hi.res.frozen
    have HX := hid (And.intro hi (And.intro hsz0 (And.intro hD hK)))
    clear hi hx hxp hK hD hnar
    go_wp2
    obtain ⟨hi, hsz, hD, hK⟩ := HX.out
    have hR2 : ∀ o, Boxed (W.putObj D o) (w.heap.size + 1) 3 (.int .i64 (fw k)) := fun o => (World.putObj_heap_other (by omega)).trans hi.res
    refine ⟨by simp, .inl ⟨_, _, rfl, run_takeDeferred hK, ?_⟩⟩
    have f0 := (hR2 (.deferred none)).cell
    exact ⟨.int .i64 (fw k), by simp [results, Tryz.results17, go_sem, f0], by rw [hr.out], (belowK_b (w := w) (Nat.le_refl _) _ D _ _ (by omega) hK rfl rfl) |> hi.below.trans⟩
end Go.Proofs.YtfobaeoccpebeaaGreatDoor

/- Plain: what the statements of targumlaw05 ask: widened and narrowed, back and forth. -/
namespace Go.Proofs.YtfobaeoccpebeaaGreatDoor
open Go Go.RowKit

theorem ok_C {m : Fm} (hm : m.ok) : m.A * m.D = A64 ∧ 0 < m.D ∧ m.A * m.B = m.C ∧ m.bias ≤ 127 ∧ m.B ≤ 256 ∧ 0 < m.A ∧ 1 < m.B ∧ 2 * m.C ≤ 4294967296 ∧ 0 < m.C := by
  rcases hm with rfl | rfl <;> refine ⟨by decide, by decide, by decide, by decide, by decide, by decide, by decide, by decide, by decide⟩
theorem wid_lt (m : Fm) (hm : m.ok) {b : Nat} (hb : b < 2 * m.C) : widV m b < 18446744073709551616 := by
  obtain ⟨c1, c2, c3, c4, c5, c6, c7, c8, c9⟩ := ok_C hm
  have hF : b % m.A < m.A := Nat.mod_lt _ c6
  have hE : b / m.A % m.B < m.B := Nat.mod_lt _ (by omega)
  have hs : b / m.C < 2 := (Nat.div_lt_iff_lt_mul c9).2 hb
  have hj : ∀ s e f, s < 2 → e < 2048 → f < A64 → s * C64 + e * A64 + f < 18446744073709551616 := by
    intro s e f h1 h2 h3
    unfold A64 C64 at *
    omega
  have hj2 : ∀ s, s < 2 → s * C64 < 18446744073709551616 := by
    intro s h1
    unfold C64
    omega
  unfold widV
  split
  · exact hj _ _ _ hs (by omega) (by rw [← c1]; exact Nat.mul_lt_mul_of_pos_right hF c2)
  · split
    · split
      · exact hj2 _ hs
      · rename_i h0
        obtain ⟨u1, u2, u3, u4⟩ := up_spec m hm h0 hF
        refine hj _ _ _ hs (by omega) ?_
        rw [← c1]
        exact Nat.mul_lt_mul_of_pos_right (by omega) c2
    · exact hj _ _ _ hs (by omega) (by rw [← c1]; exact Nat.mul_lt_mul_of_pos_right hF c2)

theorem notW {b : Nat} {x : Int} (hx : isW x = false) : widS b x = 0 ∧ widE b x = 2 ∧ narS b x = 0 ∧ narB b x = false := by
  unfold isW at hx
  rw [Bool.or_eq_false_iff, Bool.or_eq_false_iff, decide_eq_false_iff_not, decide_eq_false_iff_not, decide_eq_false_iff_not] at hx
  unfold widS widE narS narB fmOf
  rw [if_neg hx.2.2, if_neg hx.2.2, if_neg hx.2.2, if_neg hx.2.2, if_neg hx.1, if_neg hx.2.1]
  exact ⟨rfl, rfl, rfl, rfl⟩

theorem least_cases (b : Nat) : (leastS b = 16 ∧ (narV f16 b).isSome = true) ∨ (leastS b = 32 ∧ (narV f16 b).isSome = false ∧ (narV f32 b).isSome = true) ∨ (leastS b = 64 ∧ (narV f16 b).isSome = false ∧ (narV f32 b).isSome = false) := by
  unfold leastS
  cases (narV f16 b).isSome with
  | true => exact .inl ⟨rfl, rfl⟩
  | false => cases (narV f32 b).isSome with
    | true => exact .inr (.inl ⟨rfl, rfl, rfl⟩)
    | false => exact .inr (.inr ⟨rfl, rfl, rfl⟩)
theorem some_of {o : Option Nat} (h : o.isSome = true) : ∃ v, o = some v := by
  cases o with
  | none => cases h
  | some v => exact ⟨v, rfl⟩

/-- the same for both lesser widths. -/
theorem fback_m (m : Fm) (hm : m.ok) {b : Nat} (hb : b < 18446744073709551616) :
    ((if b < 2 * m.C then (0 : Int) else 2) = 2 ∨ ((if b < 2 * m.C then (0 : Int) else 2) = 0 ∧ (narV m (if b < 2 * m.C then widV m b else 0)).isSome = true ∧ (narV m (if b < 2 * m.C then widV m b else 0)).getD 0 = b)) ∧
    ((narV m b).isSome = false ∨ ((narV m b).isSome = true ∧ (if (narV m b).getD 0 < 2 * m.C then (0 : Int) else 2) = 0 ∧ (if (narV m b).getD 0 < 2 * m.C then widV m ((narV m b).getD 0) else 0) = b)) ∧
    (if b < 2 * m.C then widV m b else 0) < 18446744073709551616 ∧ (narV m b).getD 0 < 18446744073709551616 := by
  obtain ⟨-, -, -, -, -, -, -, c8, -⟩ := ok_C hm
  refine ⟨?_, ?_, ?_, ?_⟩
  · by_cases h : b < 2 * m.C
    · rw [if_pos h, if_pos h, nar_wid m hm b h]; exact .inr ⟨rfl, rfl, rfl⟩
    · rw [if_neg h]; exact .inl rfl
  · cases h : narV m b with
    | none => exact .inl rfl
    | some v =>
      obtain ⟨h1, h2⟩ := nar_lt m hm hb h
      refine .inr ⟨rfl, ?_, ?_⟩
      · rw [Option.getD_some, if_pos h1]
      · rw [Option.getD_some, if_pos h1]; exact h2
  · split
    · rename_i h; exact wid_lt m hm h
    · decide
  · cases h : narV m b with
    | none => decide
    | some v =>
      obtain ⟨h1, h2⟩ := nar_lt m hm hb h
      rw [Option.getD_some]; omega

/-- what FloatBack asks. -/
theorem fback_plain {b : Nat} {w : Int} (hb : b < 18446744073709551616) (hw : isW w = true) :
    (widE b w = 2 ∨ (widE b w = 0 ∧ narB (widS b w) w = true ∧ narS (widS b w) w = b)) ∧
    (narB b w = false ∨ (narB b w = true ∧ widE (narS b w) w = 0 ∧ widS (narS b w) w = b)) ∧
    narB b (leastS b) = true ∧ (narB b w = true ↔ leastS b ≤ w) := by
  have e16 : narB b 16 = (narV f16 b).isSome := rfl
  have e32 : narB b 32 = (narV f32 b).isSome := rfl
  have e64 : narB b 64 = true := rfl
  have hfit : narB b (leastS b) = true := by
    rcases least_cases b with ⟨h1, h2⟩ | ⟨h1, h2, h3⟩ | ⟨h1, h2, h3⟩
    · rw [h1, e16, h2]
    · rw [h1, e32, h3]
    · rw [h1, e64]
  rcases isW_cases hw with rfl | rfl | rfl
  · obtain ⟨g1, g2, -, -⟩ := fback_m f16 (.inl rfl) hb
    refine ⟨g1, g2, hfit, ?_⟩
    rw [e16]
    rcases least_cases b with ⟨h1, h2⟩ | ⟨h1, h2, h3⟩ | ⟨h1, h2, h3⟩
    · rw [h1, h2]; simp
    · rw [h1, h2]; simp
    · rw [h1, h2]; simp
  · obtain ⟨g1, g2, -, -⟩ := fback_m f32 (.inr rfl) hb
    refine ⟨g1, g2, hfit, ?_⟩
    rw [e32]
    rcases least_cases b with ⟨h1, h2⟩ | ⟨h1, h2, h3⟩ | ⟨h1, h2, h3⟩
    · obtain ⟨a, ha⟩ := some_of h2
      obtain ⟨c, hc⟩ := nar16_32 ha
      rw [h1, hc]; simp
    · rw [h1, h3]; simp
    · rw [h1, h3]; simp
  · refine ⟨.inr ⟨rfl, rfl, rfl⟩, .inr ⟨rfl, rfl, rfl⟩, hfit, ?_⟩
    rw [e64]
    rcases least_cases b with ⟨h1, h2⟩ | ⟨h1, h2, h3⟩ | ⟨h1, h2, h3⟩ <;> rw [h1] <;> simp
theorem widS_lt {b : Nat} (hb : b < 18446744073709551616) (w : Int) : widS b w < 18446744073709551616 := by
  cases hw : isW w with
  | false => rw [(notW hw).1]; decide
  | true =>
    rcases isW_cases hw with rfl | rfl | rfl
    · exact (fback_m f16 (.inl rfl) hb).2.2.1
    · exact (fback_m f32 (.inr rfl) hb).2.2.1
    · exact hb
theorem narS_lt {b : Nat} (hb : b < 18446744073709551616) (w : Int) : narS b w < 18446744073709551616 := by
  cases hw : isW w with
  | false => rw [(notW hw).2.2.1]; decide
  | true =>
    rcases isW_cases hw with rfl | rfl | rfl
    · exact (fback_m f16 (.inl rfl) hb).2.2.2
    · exact (fback_m f32 (.inr rfl) hb).2.2.2
    · exact hb
theorem widE_01 (b : Nat) (w : Int) : widE b w = 0 ∨ widE b w = 2 := by
  unfold widE
  split
  · exact .inl rfl
  · split
    · split
      · exact .inl rfl
      · exact .inr rfl
    · exact .inr rfl

/-- what FloatWays asks. -/
theorem fways_plain {x h : Nat} (hx : x < 18446744073709551616) (hh : h < 65536) :
    (narB x 16 = false ∨ (narB x 16 = true ∧ narB x 32 = true ∧ widE (narS x 32) 32 = 0 ∧ narB (widS (narS x 32) 32) 16 = true ∧ narS (widS (narS x 32) 32) 16 = narS x 16)) ∧
    widE h 16 = 0 ∧ narB (widS h 16) 32 = true ∧ widE (narS (widS h 16) 32) 32 = 0 ∧ widS (narS (widS h 16) 32) 32 = widS h 16 := by
  have e16 : ∀ y, narB y 16 = (narV f16 y).isSome := fun _ => rfl
  have s16 : ∀ y, narS y 16 = (narV f16 y).getD 0 := fun _ => rfl
  have e32 : ∀ y, narB y 32 = (narV f32 y).isSome := fun _ => rfl
  have s32 : ∀ y, narS y 32 = (narV f32 y).getD 0 := fun _ => rfl
  have w32 : ∀ y, widS y 32 = if y < 2 * f32.C then widV f32 y else 0 := fun _ => rfl
  have v32 : ∀ y, widE y 32 = if y < 2 * f32.C then (0 : Int) else 2 := fun _ => rfl
  have w16 : widS h 16 = widV f16 h := if_pos hh
  have v16 : widE h 16 = 0 := if_pos hh
  refine ⟨?_, v16, ?_⟩
  · cases hn : narV f16 x with
    | none => exact .inl (by rw [e16, hn]; rfl)
    | some a =>
      obtain ⟨b, hb⟩ := nar16_32 hn
      obtain ⟨h1, h2⟩ := nar_lt f32 (.inr rfl) hx hb
      have h3 : widS (narS x 32) 32 = x := by rw [s32, hb, Option.getD_some, w32, if_pos h1, h2]
      refine .inr ⟨by rw [e16, hn]; rfl, by rw [e32, hb]; rfl, by rw [s32, hb, Option.getD_some, v32, if_pos h1], ?_, ?_⟩
      · rw [h3, e16, hn]; rfl
      · rw [h3]
  · rw [w16]
    have hn := nar_wid f16 (.inl rfl) h hh
    obtain ⟨b, hb⟩ := nar16_32 hn
    obtain ⟨h1, h2⟩ := nar_lt f32 (.inr rfl) (wid_lt f16 (.inl rfl) hh) hb
    refine ⟨by rw [e32, hb]; rfl, by rw [s32, hb, Option.getD_some, v32, if_pos h1], by rw [s32, hb, Option.getD_some, w32, if_pos h1, h2]⟩
end Go.Proofs.YtfobaeoccpebeaaGreatDoor

/- The statements' own helper shown (targumlaw05); FloatBack, FloatWays: walked. -/
namespace Go.Proofs.YtfobaeoccpebeaaGreatDoor
open Go.RowKit Go.Shelf
attribute [local go_sem] Oper.semAt_some

theorem eqD_same5 (n : Bool) (s : ByteArray) (x : Int) (w : World) :
    (binOp .eql 25 (.agg #[.bool n, .string s, .int .i64 x]) (.agg #[.bool n, .string s, .int .i64 x])).run Tryz.prog w = .ok (.bool true) w := by
  have h := eqD n n s s x x w
  rw [show (n == n && (s.toList == s.toList && x == x)) = true by simp] at h
  exact h

theorem one_dec : toDecS 4607182418800017408 = (⟨false, [49], 0⟩, 0) := by
  have hV : tdV 4607182418800017408 = 4503599627370496 := by decide
  have hZ : tdZ 4607182418800017408 = 52 := by unfold tdZ; rw [hV] <;> rfl
  have hO : tdO 4607182418800017408 = 1 := by unfold tdO; rw [hV, hZ] <;> rfl
  have hX : tdX 4607182418800017408 = 0 := by unfold tdX; rw [hZ] <;> rfl
  have hN : tdN 4607182418800017408 = 1 := by unfold tdN; rw [hO, hX] <;> rfl
  have hT : tdT 4607182418800017408 = 0 := by unfold tdT; rw [hX] <;> rfl
  have hB : tdB 4607182418800017408 = 2 := by unfold tdB; rw [hX] <;> rfl
  have f1 : fitE 1 = 0 := dig_le (k := 0) (by decide) (by decide)
  have hP : tdP 4607182418800017408 = true := by
    unfold tdP
    rw [hB, hX, hN, f1, show powE 2 ((Int.natAbs 0 : Nat) : Int) = 0 from powE_ok (by decide) f1]; rfl
  unfold toDecS
  rw [if_neg (by decide), if_neg (by rw [hV]; decide), hP, if_pos rfl, hN, hT, dec_small (by decide)]
  rfl

set_option maxRecDepth 100000 in
set_option maxHeartbeats 2000000 in
theorem fshown_calls (w : World) (hT : Tab6 w) :
    Calls Tryz.prog 11 #[] w fun e w' => e = .returned (.bool true) ∧ Below w.heap.size w w' := by
  have h1 := fun W => widen_calls 15360 (by decide) 16 W
  change ∀ W, Calls _ _ #[.int .u64 15360, .int .i64 16] _ fun e w' => e = .returned (.tuple #[.int .u64 4607182418800017408, .int .i64 0]) ∧ _ at h1
  have h2 := fun W h => toDec_calls 4607182418800017408 (by decide) W h
  rw [one_dec] at h2
  change ∀ W, Tab6 W → Calls _ _ #[.int .u64 4607182418800017408] _ fun e w' => e = .returned (.tuple #[.agg #[.bool false, .string ⟨#[49]⟩, .int .i64 0], .int .i64 0]) ∧ _ at h2
  have h3 := fun W h => ofDec_calls false ⟨#[49]⟩ 0 (by decide) W h
  obtain ⟨g1, g2⟩ := to_of (x := 4607182418800017408) (by decide) one_dec
  have g3 : ofV ⟨false, [49], 0⟩ = 4607182418800017408 := by
    rcases g2 with g | ⟨g, -⟩
    · exact g
    · exact absurd g (by decide)
  rw [show (⟨false, tx ⟨#[49]⟩, 0⟩ : D) = ⟨false, [49], 0⟩ from rfl, g1, g3] at h3
  change ∀ W, Tabs W → Calls _ _ _ _ fun e w' => e = .returned (.tuple #[.int .u64 4607182418800017408, .bool true]) ∧ _ at h3
  have h4 := fun W => widen_calls 65536 (by decide) 16 W
  change ∀ W, Calls _ _ #[.int .u64 65536, .int .i64 16] _ fun e w' => e = .returned (.tuple #[.int .u64 0, .int .i64 2]) ∧ _ at h4
  have h5 := fun W => least_calls 4607182418800017408 (by decide) W
  rw [show leastS 4607182418800017408 = 16 by decide] at h5
  change ∀ W, Calls _ _ #[.int .u64 4607182418800017408] _ _ at h5
  have heq := eqD_same5 false ⟨#[49]⟩ 0
  have hg := guardD
  clear g1 g2 g3
  go_enter Tryz.func11, Tryz.ntmps11
  go_wp2_with fail
  refine (h1 _).mono ?_
  rintro e w1 ⟨rfl, hb1⟩
  have hW1 := hb1
  go_wp2_with fail
  refine (h2 _ (hT.below hW1)).mono ?_
  rintro e w2 ⟨rfl, hb2⟩
  have hW2 := hW1.trans (hb2.mono hW1.size)
  have hD3 := Cls.new w2 25 [.bool false, .string ⟨#[49]⟩, .int .i64 0]
  have hW3 := hW2.alloc hW2.size (.cells #[.bool false, .string ⟨#[49]⟩, .int .i64 0] 25)
  have D_0 := hD3.cell 0 rfl
  have D_1 := hD3.cell 1 rfl
  have D_2 := hD3.cell 2 rfl
  go_wp2_with fail
  clear D_0 D_1 D_2
  generalize w2.alloc (.cells #[.bool false, .string ⟨#[49]⟩, .int .i64 0] 25) = V9 at *
  refine (h3 _ (Tab6.tabs (hT.below hW3))).mono ?_
  rintro e w4 ⟨rfl, hb4⟩
  have hW4 := hW3.trans (hb4.mono hW3.size)
  have hD4 := hD3.below hb4
  go_wp2_with fail
  refine (h4 _).mono ?_
  rintro e w5 ⟨rfl, hb5⟩
  have hW5 := hW4.trans (hb5.mono hW4.size)
  have hD5 := hD4.below hb5
  have D_0 := hD5.cell 0 rfl
  have D_1 := hD5.cell 1 rfl
  have D_2 := hD5.cell 2 rfl
  go_wp2_with fail
  refine (h5 _).mono ?_
  rintro e w6 ⟨rfl, hb6⟩
  have hW6 := hW5.trans (hb6.mono hW5.size)
  have hD6 := hD5.below hb6
  go_wp2
  go_ret
  exact ⟨rfl, hW6⟩

set_option maxRecDepth 100000 in
set_option maxHeartbeats 4000000 in
theorem fback_law (b : Nat) (hb : b < 18446744073709551616) (y : Int) (_hy : -9223372036854775808 ≤ y ∧ y ≤ 9223372036854775807) (w : World) (hT : Tab6 w) :
    Calls Tryz.prog 9 #[.int .u64 b, .int .i64 y] w fun e w' => e = .returned (.bool true) ∧ Below w.heap.size w w' := by
  have hw := fun W => isWidth_calls y W
  have h1 := fun W => widen_calls b hb y W
  have h2 := fun W => narrow_calls (widS b y) (widS_lt hb y) y W
  have h3 := fun W => narrow_calls b hb y W
  have h4 := fun W => widen_calls (narS b y) (narS_lt hb y) y W
  have h5 := fun W => least_calls b hb W
  have h6 := fun W => narrow_calls b hb (leastS b) W
  cases hy2 : isW y with
  | false =>
    obtain ⟨n1, n2, n3, n4⟩ := notW (b := b) hy2
    rw [hy2] at hw
    rw [n1, n2] at h1
    rw [n3, n4] at h3
    clear h2 h4 h5 h6 n1 n2 n3 n4 hy2 hb
    obtain ⟨z, hz⟩ : ∃ z : Int, ((0 : Nat) : Int) = z := ⟨_, rfl⟩
    rw [hz] at h1 h3
    clear hz
    go_enter Tryz.func9, Tryz.ntmps9
    go_wp2_with fail
    refine (fshown_calls _ hT).mono ?_
    rintro e w1 ⟨rfl, hb1⟩
    have hW1 := hb1
    go_wp2_with fail
    refine (hw _).mono ?_
    rintro e w2 ⟨rfl, hb2⟩
    have hW2 := hW1.trans (hb2.mono hW1.size)
    go_wp2_with fail
    refine (h1 _).mono ?_
    rintro e w3 ⟨rfl, hb3⟩
    have hW3 := hW2.trans (hb3.mono hW2.size)
    go_wp2_with fail
    refine (h3 _).mono ?_
    rintro e w4 ⟨rfl, hb4⟩
    have hW4 := hW3.trans (hb4.mono hW3.size)
    go_wp2
    go_ret
    exact ⟨rfl, hW4⟩
  | true =>
    obtain ⟨p1, p2, p3, p4⟩ := fback_plain hb hy2
    rw [hy2] at hw
    have p4' : (narB b y = false ∧ decide (leastS b ≤ y) = false) ∨ (narB b y = true ∧ decide (leastS b ≤ y) = true) := by
      cases h : narB b y with
      | false => exact .inl ⟨rfl, decide_eq_false fun h' => by rw [p4.2 h'] at h; cases h⟩
      | true => exact .inr ⟨rfl, decide_eq_true (p4.1 h)⟩
    obtain ⟨a, ha⟩ : ∃ v, widS b y = v := ⟨_, rfl⟩
    obtain ⟨e, he⟩ : ∃ v, widE b y = v := ⟨_, rfl⟩
    obtain ⟨c, hc⟩ : ∃ v, narS b y = v := ⟨_, rfl⟩
    obtain ⟨i, hi⟩ : ∃ v, narB b y = v := ⟨_, rfl⟩
    obtain ⟨le, hle⟩ : ∃ v, leastS b = v := ⟨_, rfl⟩
    rw [ha, he] at h1 p1
    rw [ha] at h2
    rw [hc, hi] at h3 p2
    rw [hc] at h4
    rw [hle] at h5 h6 p3 p4'
    rw [hi] at p4'
    obtain ⟨b2, hb2⟩ : ∃ v, narS a y = v := ⟨_, rfl⟩
    obtain ⟨ok, hok⟩ : ∃ v, narB a y = v := ⟨_, rfl⟩
    obtain ⟨d, hd⟩ : ∃ v, widS c y = v := ⟨_, rfl⟩
    obtain ⟨f, hf⟩ : ∃ v, widE c y = v := ⟨_, rfl⟩
    obtain ⟨z, hz⟩ : ∃ v, narS b le = v := ⟨_, rfl⟩
    rw [hb2, hok] at h2 p1
    rw [hd, hf] at h4 p2
    rw [p3, hz] at h6
    clear ha he hc hi hle hb2 hok hd hf hz p3 p4 hy2 hb
    rcases p1 with rfl | ⟨rfl, rfl, rfl⟩
    all_goals (
      rcases p4' with ⟨rfl, hlt⟩ | ⟨rfl, hlt⟩)
    all_goals (
      rcases p2 with p2 | ⟨p2, rfl, rfl⟩)
    all_goals (first | (cases p2; done) | skip)
    all_goals (
      clear p2
      go_enter Tryz.func9, Tryz.ntmps9
      go_wp2_with fail
      refine (fshown_calls _ hT).mono ?_
      rintro e w1 ⟨rfl, hb1⟩
      have hW1 := hb1
      go_wp2_with fail
      refine (hw _).mono ?_
      rintro e w2 ⟨rfl, hb2⟩
      have hW2 := hW1.trans (hb2.mono hW1.size)
      go_wp2_with fail
      refine (h1 _).mono ?_
      rintro e w3 ⟨rfl, hb3⟩
      have hW3 := hW2.trans (hb3.mono hW2.size)
      go_wp2_with fail
      refine (h2 _).mono ?_
      rintro e w4 ⟨rfl, hb4⟩
      have hW4 := hW3.trans (hb4.mono hW3.size)
      go_wp2_with fail
      refine (h3 _).mono ?_
      rintro e w5 ⟨rfl, hb5⟩
      have hW5 := hW4.trans (hb5.mono hW4.size)
      go_wp2_with fail
      refine (h4 _).mono ?_
      rintro e w6 ⟨rfl, hb6⟩
      have hW6 := hW5.trans (hb6.mono hW5.size)
      go_wp2_with fail
      refine (h5 _).mono ?_
      rintro e w7 ⟨rfl, hb7⟩
      have hW7 := hW6.trans (hb7.mono hW6.size)
      go_wp2_with fail
      refine (h6 _).mono ?_
      rintro e w8 ⟨rfl, hb8⟩
      have hW8 := hW7.trans (hb8.mono hW7.size)
      go_wp2
      go_ret
      exact ⟨rfl, hW8⟩)

set_option maxRecDepth 100000 in
set_option maxHeartbeats 4000000 in
theorem fways_law (x : Nat) (hx : x < 18446744073709551616) (y : Nat) (hy : y < 18446744073709551616) (w : World) (hT : Tab6 w) :
    Calls Tryz.prog 7 #[.int .u64 x, .int .u64 y] w fun e w' => e = .returned (.bool true) ∧ Below w.heap.size w w' := by
  have hand := and_mask (x := y) (n := 16) hy 65535 (by decide) (by decide)
  change _ = ((y % 65536 : Nat) : Int) at hand
  obtain ⟨h, hh⟩ : ∃ h, y % 65536 = h := ⟨_, rfl⟩
  have hhl : h < 65536 := by omega
  rw [hh] at hand
  obtain ⟨p1, p2, p3, p4, p5⟩ := fways_plain hx hhl
  have h1 := fun W => narrow_calls x hx 16 W
  have h2 := fun W => narrow_calls x hx 32 W
  have h3 := fun W => widen_calls h (by omega) 16 W
  have hl1 := widS_lt (show h < 18446744073709551616 by omega) 16
  have h4 := fun W => narrow_calls (widS h 16) hl1 32 W
  have h5 := fun W => widen_calls (narS (widS h 16) 32) (narS_lt hl1 32) 32 W
  have hl2 := narS_lt hx 32
  have h6 := fun W => widen_calls (narS x 32) hl2 32 W
  have h7 := fun W => narrow_calls (widS (narS x 32) 32) (widS_lt hl2 32) 16 W
  rw [p2] at h3
  rw [p3] at h4
  rw [p4, p5] at h5
  obtain ⟨v1, e1⟩ : ∃ v, widS h 16 = v := ⟨_, rfl⟩
  rw [e1] at h3 h4 h5
  obtain ⟨v2, e2⟩ : ∃ v, narS v1 32 = v := ⟨_, rfl⟩
  rw [e2] at h4
  rw [e2] at h5
  obtain ⟨v3, e3⟩ : ∃ v, narS x 16 = v := ⟨_, rfl⟩
  obtain ⟨v4, e4⟩ : ∃ v, narS x 32 = v := ⟨_, rfl⟩
  obtain ⟨v5, e5⟩ : ∃ v, widS v4 32 = v := ⟨_, rfl⟩
  rw [e3] at h1 p1
  rw [e4] at h2 h6 h7 p1
  rw [e5] at h6 h7 p1
  obtain ⟨b1, f1⟩ : ∃ v, narB x 16 = v := ⟨_, rfl⟩
  obtain ⟨b2, f2⟩ : ∃ v, narB x 32 = v := ⟨_, rfl⟩
  obtain ⟨b3, f3⟩ : ∃ v, widE v4 32 = v := ⟨_, rfl⟩
  obtain ⟨b4, f4⟩ : ∃ v, narB v5 16 = v := ⟨_, rfl⟩
  obtain ⟨v6, e6⟩ : ∃ v, narS v5 16 = v := ⟨_, rfl⟩
  rw [f1] at h1 p1
  rw [f2] at h2 p1
  rw [f3] at h6 p1
  rw [f4, e6] at h7 p1
  clear p2 p3 p4 p5 hl1 hl2 e1 e2 e3 e4 e5 e6 f1 f2 f3 f4 hh hhl hx hy
  rcases p1 with rfl | ⟨rfl, rfl, rfl, rfl, rfl⟩
  · skip
    go_enter Tryz.func7, Tryz.ntmps7
    go_wp2_with fail
    refine (fshown_calls _ hT).mono ?_
    rintro e w1 ⟨rfl, hb1⟩
    have hW1 := hb1
    go_wp2_with fail
    refine (h1 _).mono ?_
    rintro e w2 ⟨rfl, hb2⟩
    have hW2 := hW1.trans (hb2.mono hW1.size)
    go_wp2_with fail
    refine (h2 _).mono ?_
    rintro e w3 ⟨rfl, hb3⟩
    have hW3 := hW2.trans (hb3.mono hW2.size)
    go_wp2_with fail
    refine (h3 _).mono ?_
    rintro e w4 ⟨rfl, hb4⟩
    have hW4 := hW3.trans (hb4.mono hW3.size)
    go_wp2_with fail
    refine (h4 _).mono ?_
    rintro e w5 ⟨rfl, hb5⟩
    have hW5 := hW4.trans (hb5.mono hW4.size)
    go_wp2_with fail
    refine (h5 _).mono ?_
    rintro e w6 ⟨rfl, hb6⟩
    have hW6 := hW5.trans (hb6.mono hW5.size)
    go_wp2
    go_ret
    exact ⟨rfl, hW6⟩
  · skip
    go_enter Tryz.func7, Tryz.ntmps7
    go_wp2_with fail
    refine (fshown_calls _ hT).mono ?_
    rintro e w1 ⟨rfl, hb1⟩
    have hW1 := hb1
    go_wp2_with fail
    refine (h1 _).mono ?_
    rintro e w2 ⟨rfl, hb2⟩
    have hW2 := hW1.trans (hb2.mono hW1.size)
    go_wp2_with fail
    refine (h2 _).mono ?_
    rintro e w3 ⟨rfl, hb3⟩
    have hW3 := hW2.trans (hb3.mono hW2.size)
    go_wp2_with fail
    refine (h3 _).mono ?_
    rintro e w4 ⟨rfl, hb4⟩
    have hW4 := hW3.trans (hb4.mono hW3.size)
    go_wp2_with fail
    refine (h4 _).mono ?_
    rintro e w5 ⟨rfl, hb5⟩
    have hW5 := hW4.trans (hb5.mono hW4.size)
    go_wp2_with fail
    refine (h5 _).mono ?_
    rintro e w6 ⟨rfl, hb6⟩
    have hW6 := hW5.trans (hb6.mono hW5.size)
    go_wp2_with fail
    refine (h6 _).mono ?_
    rintro e w7 ⟨rfl, hb7⟩
    have hW7 := hW6.trans (hb7.mono hW6.size)
    go_wp2_with fail
    refine (h7 _).mono ?_
    rintro e w8 ⟨rfl, hb8⟩
    have hW8 := hW7.trans (hb8.mono hW7.size)
    go_wp2
    go_ret
    exact ⟨rfl, hW8⟩
end Go.Proofs.YtfobaeoccpebeaaGreatDoor

/- What the rows' cell laid gives the walks, and the door's own heap. -/
namespace Go.Proofs.YtfobaeoccpebeaaGreatDoor
open Go.ChangeShapes Go.WideShapes Go.ChangeAt Go.WideElems Go.RowKit

/-- what the rows list. -/
def laidL : List (String × DataW Unit) := Rows.floatBackRow.laid

theorem own : ownKnob Tryz.prog.godebug = none := by kernel_rfl
theorem star : "*" ++ "errors.errorString" = "*errors.errorString" := by decide
theorem row_err (u : TypeId) (h : Tryz.prog.typeName? 3 u = some "*errors.errorString") : u = 172 :=
  typeName_ptr_named (nm := "errors.errorString") (by rw [star]; kernel_rfl) (by kernel_rfl) (by decide) u (by rw [star]; exact h)

theorem laid_plain (W : World) : laidMetH Tryz.prog laidL W = laidMet Tryz.prog laidL W := MakeChecks.laidMetH_plain _ _ _ (by kernel_rfl)

theorem tabs_of_laid {W : World} (h : laidMetH Tryz.prog laidL W) : Tab6 W := by
  rw [laid_plain] at h
  have h1 := h.tail
  have h2 := h1.tail
  have h4 := h2.tail.tail
  obtain ⟨a, s, hv, -, -, -⟩ := laid_sentinel h4 range_glob (ti := 95) (tp := 172) (te := 174) (ts := 9) (by kernel_rfl) Tryz.underlying95 row_err (by kernel_rfl) Tryz.underlying174 rfl rfl (by kernel_rfl) (by kernel_rfl) (by kernel_rfl)
  have h5 := h4.tail
  obtain ⟨a', s', hv', -, -, -⟩ := laid_sentinel h5 synt_glob (ti := 95) (tp := 172) (te := 174) (ts := 9) (by kernel_rfl) Tryz.underlying95 row_err (by kernel_rfl) Tryz.underlying174 rfl rfl (by kernel_rfl) (by kernel_rfl) (by kernel_rfl)
  refine ⟨⟨?_, ⟨_, _, hv⟩, ⟨_, _, hv'⟩⟩, Lib.tabIs_of_head (zs := dbTab) (k := .u8) (t := 83) (e := 5) (n := 64) db_glob (by kernel_rfl) (by kernel_rfl) (by kernel_rfl) (by kernel_rfl) (by kernel_rfl) h1⟩
  exact Lib.tabIs_of_head (zs := Lib.pow10Tab) (k := .u64) (t := 154) (e := 22) (n := 20) pow10_glob (by kernel_rfl) (by kernel_rfl) (by kernel_rfl) (by kernel_rfl) (by kernel_rfl) h2

theorem wit_os (os : Os) : (World.laidAll Tryz.prog os laidL).os = os := World.laidAll_os _ _ _
theorem wit_met (os : Os) (args : Array Value) : laidMetH Tryz.prog laidL ((World.laidAll Tryz.prog os laidL).forCall (fun _ _ => 0) ⟨#[], args, []⟩).memory := by
  rw [laid_plain]
  exact laidMet_laidAll _ (by kernel_rfl) (by kernel_rfl)
theorem wit_shaped (os : Os) : World.Shaped Tryz.prog (World.laidAll Tryz.prog os laidL) := World.shaped_of_ZipB (by kernel_rfl) (by kernel_rfl)
end Go.Proofs.YtfobaeoccpebeaaGreatDoor

