/- Plain: what FloatSigns, FloatTurns, FloatWholes ask. -/
import Derived.Test.YtfobaeoccpebeaaGreatDoorMD
import Derived.Laws.BitsAllLaws
import Derived.Test.YtfobaeoccpebeaaGreatDoorMI
import Derived.Test.YtfobaeoccpebeaaGreatDoorMB
namespace Go.Proofs.YtfobaeoccpebeaaGreatDoor
open Go Go.RowKit

theorem xor63 {y : Nat} (hy : y < 9223372036854775808) : y ^^^ 9223372036854775808 = y + 9223372036854775808 := by
  have h1 := Nat.shiftLeft_add_eq_or_of_lt (i := 63) (b := y) hy 1
  rw [Nat.shiftLeft_eq, Nat.one_mul] at h1
  have h3 : (9223372036854775808 : Nat) = 2 ^ 63 := by decide
  rw [h3, Nat.add_comm, h1, Nat.or_comm]
  refine Nat.eq_of_testBit_eq fun i => ?_
  rw [Nat.testBit_xor, Nat.testBit_or, Nat.testBit_two_pow]
  by_cases hi : 63 = i
  · subst hi
    rw [Nat.testBit_lt_two_pow (by rw [← h3]; exact hy)]; rfl
  · rw [decide_eq_false hi, Bool.xor_false, Bool.or_false]
/-- the opposite sign. -/
def flipX (x : Nat) : Nat := if x < C64 then x + C64 else x - C64
theorem flip_xor {x : Nat} (hx : x < 18446744073709551616) : bits .xor .u64 (x : Int) 9223372036854775808 = ((flipX x : Nat) : Int) := by
  have h := u64_xor_nat x 9223372036854775808 hx (by omega)
  have hC : C64 = 9223372036854775808 := rfl
  rw [show x ^^^ 9223372036854775808 = flipX x by
    unfold flipX
    rw [hC]
    split
    · rename_i h1; exact xor63 h1
    · rename_i h1
      obtain ⟨y, hy⟩ : ∃ y, x - 9223372036854775808 = y := ⟨_, rfl⟩
      have hxy : x = y ^^^ 9223372036854775808 := by rw [xor63 (by omega)]; omega
      rw [hy, hxy, Nat.xor_assoc, Nat.xor_self, Nat.xor_zero]] at h
  exact h
theorem flip_parts {x : Nat} (hx : x < 18446744073709551616) : flipX x < 18446744073709551616 ∧ flipX x / A64 % 2048 = x / A64 % 2048 ∧ flipX x % A64 = x % A64 ∧ decide (flipX x / C64 = 1) = !decide (x / C64 = 1) ∧ leastS (flipX x) = leastS x := by
  have hn : ∀ m, (narV m (flipX x)).isSome = (narV m x).isSome := fun m => by
    unfold flipX
    split
    · rename_i h; exact nar_sign m h
    · rename_i h
      have := nar_sign m (x := x - C64) (by unfold C64 at *; omega)
      rw [Nat.sub_add_cancel (by omega)] at this
      exact this.symm
  refine ⟨?_, ?_, ?_, ?_, ?_⟩
  · unfold flipX C64; split <;> omega
  · unfold flipX A64 C64; split <;> omega
  · unfold flipX A64 C64; split <;> omega
  · unfold flipX C64
    split
    · rw [decide_eq_true (by omega), decide_eq_false (by omega)]; rfl
    · rw [decide_eq_false (by omega), decide_eq_true (by omega)]; rfl
  · unfold leastS; rw [hn, hn]

theorem mk_flip (n : Bool) (l : List UInt8) (x : Int) :
    (mk (!n) l x = mk n l x ∧ ((mk n l x).2 ≠ 0 ∨ (mk n l x).1.dg = [48])) ∨
    ((mk n l x).2 = 0 ∧ (mk n l x).1.dg ≠ [48] ∧ mk (!n) l x = (⟨!(mk n l x).1.neg, (mk n l x).1.dg, (mk n l x).1.ex⟩, 0)) := by
  have h48 : stripR (stripL l) ≠ [48] := fun e => stripR_last (stripL l) (by rw [e]; rfl)
  have hd : ∀ b, decR (mkD b l x) = decR (mkD n l x) := fun b => by
    unfold decR mkD
    rw [if_neg h48, if_neg h48]
  unfold mk
  split
  · split
    · exact .inl ⟨rfl, .inr rfl⟩
    · rw [hd]
      split
      · exact .inr ⟨rfl, h48, rfl⟩
      · exact .inl ⟨rfl, .inl (by decide)⟩
  · exact .inl ⟨rfl, .inl (by decide)⟩

theorem tdV_flip {x : Nat} (hx : x < 18446744073709551616) : tdV (flipX x) = tdV x ∧ tdN (flipX x) = tdN x ∧ tdT (flipX x) = tdT x ∧ tdP (flipX x) = tdP x := by
  obtain ⟨-, h2, h3, -, -⟩ := flip_parts hx
  have hV : tdV (flipX x) = tdV x := by unfold tdV; rw [h2, h3]
  have hZ : tdZ (flipX x) = tdZ x := by unfold tdZ; rw [hV]
  have hO : tdO (flipX x) = tdO x := by unfold tdO; rw [hV, hZ]
  have hX : tdX (flipX x) = tdX x := by unfold tdX; rw [h2, hZ]
  have hB : tdB (flipX x) = tdB x := by unfold tdB; rw [hX]
  have hN : tdN (flipX x) = tdN x := by unfold tdN; rw [hO, hB, hX]
  exact ⟨hV, hN, by unfold tdT; rw [hX], by unfold tdP; rw [hB, hX, hN]⟩

/-- what FloatSigns asks. -/
theorem fsigns_plain {x : Nat} (hx : x < 18446744073709551616) :
    (toDecS (flipX x) = toDecS x ∧ ((toDecS x).2 ≠ 0 ∨ (toDecS x).1.dg = [48])) ∨
    ((toDecS x).2 = 0 ∧ (toDecS x).1.dg ≠ [48] ∧ toDecS (flipX x) = (⟨!(toDecS x).1.neg, (toDecS x).1.dg, (toDecS x).1.ex⟩, 0) ∧ finB x = true) := by
  obtain ⟨-, h2, -, h4, -⟩ := flip_parts hx
  obtain ⟨v1, v2, v3, v4⟩ := tdV_flip hx
  unfold toDecS
  rw [h2, v1, v2, v3, v4, h4]
  by_cases h1 : x / A64 % 2048 = 2047
  · simp only [if_pos h1]; exact .inl ⟨trivial, .inl (by decide)⟩
  · simp only [if_neg h1]
    by_cases h0 : tdV x = 0
    · simp only [if_pos h0]; exact .inl ⟨trivial, .inr rfl⟩
    · simp only [if_neg h0]
      cases tdP x with
      | false => simp only [Bool.false_eq_true, if_false]; exact .inl ⟨trivial, .inl (by decide)⟩
      | true =>
        simp only [if_true]
        rcases mk_flip (decide (x / C64 = 1)) (Lib.decDigits (tdN x)) (tdT x) with ⟨g1, g2⟩ | ⟨g1, g2, g3⟩
        · exact .inl ⟨g1, g2⟩
        · exact .inr ⟨g1, g2, g3, decide_eq_true h1⟩

theorem min_zero : toDecS 9223372036854775808 = (Dz, 0) := by
  have hV : tdV 9223372036854775808 = 0 := by decide
  unfold toDecS
  rw [if_neg (by decide), if_pos hV]
/-- what FloatTurns asks of a float. -/
theorem fturns_plain {x : Nat} (hx : x < 18446744073709551616) :
    (toDecS x).2 ≠ 0 ∨ ((toDecS x).2 = 0 ∧ decR (toDecS x).1 = true ∧ ofOk (toDecS x).1 = true ∧ ((x ≠ 9223372036854775808 ∧ ofV (toDecS x).1 = x) ∨ (x = 9223372036854775808 ∧ ofV (toDecS x).1 = 0))) := by
  by_cases h : (toDecS x).2 = 0
  · obtain ⟨h1, h2⟩ := to_of (x := x) hx (X := (toDecS x).1) (by rw [← h])
    refine .inr ⟨h, by unfold ofOk at h1; exact ((Bool.and_eq_true _ _).mp h1).1, h1, ?_⟩
    by_cases hm : x = 9223372036854775808
    · refine .inr ⟨hm, ?_⟩
      rcases h2 with h2 | ⟨-, h2⟩
      · exfalso
        rw [hm, min_zero] at h2
        have : ofV Dz = 0 := by unfold ofV; rw [show decide (Dz.dg = [48]) = true from rfl]; simp
        have h3 : ofV Dz = 9223372036854775808 := h2
        rw [this] at h3
        exact absurd h3 (by decide)
      · exact h2
    · refine .inl ⟨hm, ?_⟩
      rcases h2 with h2 | ⟨h2, -⟩
      · exact h2
      · exact absurd h2 hm
  · exact .inl h
theorem ofV_no {d : D} (h : ofOk d = false) : ofV d = 0 := by
  unfold ofOk at h
  unfold ofV
  cases hr : decR d with
  | false => rfl
  | true =>
    rw [hr, Bool.true_and, Bool.or_eq_false_iff] at h
    rw [h.2, Bool.and_false, Bool.and_false]; rfl
theorem ofV_lt (d : D) : ofV d < 18446744073709551616 := by
  cases h : ofOk d with
  | false => rw [ofV_no h]; decide
  | true => exact (of_to h).1

/-- a decimal's odd part is not greater than the number at the digits. -/
theorem odO_le (d : D) : odO d ≤ nv d.dg * 5 ^ d.ex.toNat / 5 ^ odK d := Nat.div_le_self _ _
theorem ofOk_of {d : D} (hr : decR d = true) (h : d.dg = [48] ∨ (odN d % 5 ^ odK d = 0 ∧ odN d / 5 ^ odK d < 9007199254740992)) : ofOk d = true := by
  unfold ofOk ofB
  rw [hr]
  rcases h with h | ⟨h1, h2⟩
  · rw [decide_eq_true h]; rfl
  · have h3 : odO d < 2 * A64 := Nat.lt_of_le_of_lt (odO_le d) h2
    rw [decide_eq_true h1, decide_eq_true h3]; simp
theorem whole_zero (neg : Bool) : (mk neg (Lib.decDigits 0) 0).1 = Dz := by
  rw [show Lib.decDigits 0 = [48] from by rw [dec_small (by omega)]; rfl]
  cases neg <;> rfl
theorem nv_whole {n : Nat} {d : D} (h : d.dg ++ List.replicate d.ex.toNat 48 = Lib.decDigits n) : nv d.dg * 10 ^ d.ex.toNat = n := by
  rw [← nv_dg_zeros, h, nv_dec]

/-- what FloatWholes asks of whole numbers. -/
theorem fwholes_plain (neg : Bool) {n : Nat} (hn : n < 9007199254740992) (d : D) (hd : (mk neg (Lib.decDigits n) 0).1 = d) :
    ofOk d = true ∧ mk neg d.dg d.ex = (d, 0) := by
  obtain ⟨h1, h2, h3, h4, h5⟩ := whole_plain neg n (by omega) d hd
  by_cases h0 : n = 0
  · subst h0
    rw [whole_zero] at hd
    subst hd
    exact ⟨by decide +kernel, by cases neg <;> rfl⟩
  · have hv := nv_whole h4
    by_cases h48 : d.dg = [48]
    · exfalso
      have h6 := h1
      unfold decR at h6
      rw [if_pos h48, Bool.and_eq_true, decide_eq_true_eq, Bool.not_eq_true'] at h6
      rw [h48, h6.1] at hv
      exact h0 hv.symm
    · refine ⟨ofOk_of h1 (.inr ?_), ?_⟩
      · have hK : odK d = 0 := by unfold odK; omega
        rw [hK, Nat.pow_zero, Nat.mod_one, Nat.div_one]
        refine ⟨rfl, Nat.lt_of_le_of_lt ?_ hn⟩
        unfold odN
        rw [← hv]
        exact Nat.mul_le_mul_left _ (Nat.pow_le_pow_left (by omega) _)
      · have h6 := mk_back h1 h48 0 (by omega) d.ex (by omega) (by omega)
        rw [Nat.pow_zero, Nat.mul_one, (dec_num h1 h48).2.2] at h6
        rw [h5, decide_eq_true (show 0 < n by omega), Bool.and_true] at h6
        exact h6
/-- .. and of their halves. -/
theorem fhalf_plain (neg : Bool) {m : Nat} (hm : m < 1000000007) (d : D) (hd : (mk false (Lib.decDigits (5 * m)) 0).1 = d) :
    (mk neg d.dg (d.ex - 1)).2 = 0 ∧ ofOk (mk neg d.dg (d.ex - 1)).1 = true ∧ 0 ≤ d.ex ∧ d.ex ≤ 20 := by
  obtain ⟨h1, h2, h3, h4, h5⟩ := whole_plain false (5 * m) (by omega) d hd
  by_cases h0 : m = 0
  · subst h0
    rw [show 5 * 0 = 0 from rfl, whole_zero] at hd
    subst hd
    have e : mk neg Dz.dg (Dz.ex - 1) = (Dz, 0) := by cases neg <;> rfl
    rw [e]
    exact ⟨rfl, by decide +kernel, by decide, by decide⟩
  · have hv := nv_whole h4
    by_cases h48 : d.dg = [48]
    · exfalso
      have h6 := h1
      unfold decR at h6
      rw [if_pos h48, Bool.and_eq_true, decide_eq_true_eq, Bool.not_eq_true'] at h6
      rw [h48, h6.1] at hv
      have : (0 : Nat) = 5 * m := hv
      omega
    · obtain ⟨h, hh⟩ : ∃ h : D, (⟨neg, d.dg, d.ex - 1⟩ : D) = h := ⟨_, rfl⟩
      have hn : h.neg = neg := by rw [← hh]
      have hg : h.dg = d.dg := by rw [← hh]
      have hx : h.ex = d.ex - 1 := by rw [← hh]
      have hr : decR h = true := by
        have h6 := h1
        unfold decR at h6 ⊢
        rw [if_neg h48] at h6
        rw [hg, hx, if_neg h48]
        rw [Bool.and_eq_true, Bool.and_eq_true, Bool.and_eq_true, Bool.and_eq_true] at h6
        obtain ⟨a1, a2, ⟨-, a3⟩, a4⟩ := h6
        rw [a1, a2, a4, decide_eq_true (show -100 ≤ d.ex - 1 by omega), decide_eq_true (show d.ex - 1 ≤ 100 by omega)]; rfl
      have hmk := mk_back hr (by rw [hg]; exact h48) 0 (by omega) h.ex (by omega) (by omega)
      rw [Nat.pow_zero, Nat.mul_one, (dec_num hr (by rw [hg]; exact h48)).2.2, hn, hg, hx] at hmk
      rw [hmk]
      refine ⟨rfl, ofOk_of hr (.inr ?_), h2, h3⟩
      unfold odN odK
      rw [hg, hx]
      rcases Int.lt_or_le 0 d.ex with hp | hp
      · rw [show (-(d.ex - 1)).toNat = 0 by omega, Nat.pow_zero, Nat.mod_one, Nat.div_one]
        refine ⟨rfl, Nat.lt_of_le_of_lt ?_ (show 5 * m < 9007199254740992 by omega)⟩
        rw [← hv]
        refine Nat.mul_le_mul_left _ (Nat.le_trans (Nat.pow_le_pow_left (show 5 ≤ 10 by omega) _) (ten_le (by omega)))
      · rw [show (-(d.ex - 1)).toNat = 1 by omega, show (d.ex - 1).toNat = 0 by omega, Nat.pow_zero, Nat.mul_one, Nat.pow_one]
        rw [show d.ex.toNat = 0 by omega, Nat.pow_zero, Nat.mul_one] at hv
        rw [hv]
        exact ⟨by omega, by omega⟩
end Go.Proofs.YtfobaeoccpebeaaGreatDoor

/- The statements FloatSigns, FloatTurns (targumlaw05): walked. -/
namespace Go.Proofs.YtfobaeoccpebeaaGreatDoor
open Go.RowKit Go.Shelf
attribute [local go_sem] Oper.semAt_some

set_option maxRecDepth 100000 in
set_option maxHeartbeats 4000000 in
theorem fsigns_law (x : Nat) (hx : x < 18446744073709551616) (w : World) (hT : Tab6 w) :
    Calls Tryz.prog 6 #[.int .u64 x] w fun e w' => e = .returned (.bool true) ∧ Below w.heap.size w w' := by
  have hxor := flip_xor hx
  obtain ⟨p1, -, -, -, p5⟩ := flip_parts hx
  have hp := fsigns_plain hx
  have h1 := fun W h => toDec_calls x hx W h
  have h2 := fun W h => toDec_calls (flipX x) p1 W h
  have h3 := fun W => least_calls x hx W
  have h4 := fun W => least_calls (flipX x) p1 W
  rw [p5] at h4
  have h5 := fun W => isFinite_calls x hx W
  obtain ⟨a1, ha1⟩ : ∃ r, ((toDecS x).1).neg = r := ⟨_, rfl⟩
  obtain ⟨a2, ha2⟩ : ∃ r, B ((toDecS x).1).dg = r := ⟨_, rfl⟩
  obtain ⟨a3, ha3⟩ : ∃ r, ((toDecS x).1).ex = r := ⟨_, rfl⟩
  have hav : ((toDecS x).1).val = .agg #[.bool a1, .string a2, .int .i64 a3] := by rw [← ha1, ← ha2, ← ha3]; rfl
  obtain ⟨e1, he1⟩ : ∃ r, (toDecS x).2 = r := ⟨_, rfl⟩
  rw [hav, he1] at h1
  have hdg : (toDecS x).1.dg = [48] ↔ (a2.toList == [48]) = true := by
    rw [← ha2, beq_iff_eq, Lib.toList_data]
    show _ ↔ tx (B (toDecS x).1.dg) = [48]
    rw [tx_B]
  have hp2 : (toDecS (flipX x) = toDecS x ∧ ((e1 != 0) = true ∨ (e1 = 0 ∧ (a2.toList == [48]) = true))) ∨
      (e1 = 0 ∧ (a2.toList == [48]) = false ∧ (toDecS (flipX x)).1.val = .agg #[.bool !a1, .string a2, .int .i64 a3] ∧ (toDecS (flipX x)).2 = 0 ∧ finB x = true) := by
    rw [he1] at hp
    rcases hp with ⟨g1, g2⟩ | ⟨g1, g2, g3, g4⟩
    · refine .inl ⟨g1, ?_⟩
      by_cases hz : e1 = 0
      · refine .inr ⟨hz, hdg.1 ?_⟩
        rcases g2 with g2 | g2
        · exact absurd hz g2
        · exact g2
      · exact .inl (by rw [bne_iff_ne]; exact hz)
    · refine .inr ⟨g1, ?_, ?_, ?_, g4⟩
      · cases hb : (a2.toList == [48]) with
        | false => rfl
        | true => exact absurd (hdg.2 hb) g2
      · rw [g3, ← ha1, ← ha2, ← ha3]; rfl
      · rw [g3]
  obtain ⟨x', hx'⟩ : ∃ v, flipX x = v := ⟨_, rfl⟩
  rw [hx'] at hxor h2 h4 hp2
  obtain ⟨le, hle⟩ : ∃ v, leastS x = v := ⟨_, rfl⟩
  rw [hle] at h3 h4
  have heq := eqD_same5
  have hg := guardD
  clear hle hx' hp p1 p5 hdg hx
  rcases hp2 with ⟨g1, g2⟩ | ⟨rfl, g2, g3, g4, g5⟩
  · rw [g1, hav, he1] at h2
    clear g1 hav he1 ha1 ha2 ha3 h3 h4 h5
    have heq := heq a1 a2 a3
    rcases g2 with g2 | ⟨rfl, g2⟩
    all_goals (
      go_enter Tryz.func6, Tryz.ntmps6
      go_wp2_with fail
      refine (fshown_calls _ hT).mono ?_
      rintro e w1 ⟨rfl, hb1⟩
      have hW1 := hb1
      go_wp2_with fail
      refine (h1 _ (hT.below hW1)).mono ?_
      rintro e w2 ⟨rfl, hb2⟩
      have hW2 := hW1.trans (hb2.mono hW1.size)
      have hA3 := Cls.new w2 25 [.bool a1, .string a2, .int .i64 a3]
      have hW3 := hW2.alloc hW2.size (.cells #[.bool a1, .string a2, .int .i64 a3] 25)
      have A_0 := hA3.cell 0 rfl
      have A_1 := hA3.cell 1 rfl
      have A_2 := hA3.cell 2 rfl
      go_wp2_with fail
      clear A_0 A_1 A_2
      generalize w2.alloc (.cells #[.bool a1, .string a2, .int .i64 a3] 25) = V8 at *
      refine (h2 _ (hT.below hW3)).mono ?_
      rintro e w4 ⟨rfl, hb4⟩
      have hW4 := hW3.trans (hb4.mono hW3.size)
      have hA4 := hA3.below hb4
      have hA5 := hA4.alloc (.cells #[.bool a1, .string a2, .int .i64 a3] 25)
      have hB5 := Cls.new w4 25 [.bool a1, .string a2, .int .i64 a3]
      have hW5 := hW4.alloc hW4.size (.cells #[.bool a1, .string a2, .int .i64 a3] 25)
      have A_0 := hA5.cell 0 rfl
      have A_1 := hA5.cell 1 rfl
      have A_2 := hA5.cell 2 rfl
      have B_0 := hB5.cell 0 rfl
      have B_1 := hB5.cell 1 rfl
      have B_2 := hB5.cell 2 rfl
      go_wp2
      go_ret
      exact ⟨rfl, hW5⟩)
  · rw [g3, g4] at h2
    rw [g5] at h5
    clear g3 g4 g5 hav he1 ha1 ha2 ha3
    have heq := heq (!a1) a2 a3
    go_enter Tryz.func6, Tryz.ntmps6
    go_wp2_with fail
    refine (fshown_calls _ hT).mono ?_
    rintro e w1 ⟨rfl, hb1⟩
    have hW1 := hb1
    go_wp2_with fail
    refine (h1 _ (hT.below hW1)).mono ?_
    rintro e w2 ⟨rfl, hb2⟩
    have hW2 := hW1.trans (hb2.mono hW1.size)
    have hA3 := Cls.new w2 25 [.bool a1, .string a2, .int .i64 a3]
    have hW3 := hW2.alloc hW2.size (.cells #[.bool a1, .string a2, .int .i64 a3] 25)
    have A_0 := hA3.cell 0 rfl
    have A_1 := hA3.cell 1 rfl
    have A_2 := hA3.cell 2 rfl
    go_wp2_with fail
    clear A_0 A_1 A_2
    generalize w2.alloc (.cells #[.bool a1, .string a2, .int .i64 a3] 25) = V8 at *
    refine (h2 _ (hT.below hW3)).mono ?_
    rintro e w4 ⟨rfl, hb4⟩
    have hW4 := hW3.trans (hb4.mono hW3.size)
    have hA4 := hA3.below hb4
    have hA5 := hA4.alloc (.cells #[.bool !a1, .string a2, .int .i64 a3] 25)
    have hB5 := Cls.new w4 25 [.bool !a1, .string a2, .int .i64 a3]
    have hW5 := hW4.alloc hW4.size (.cells #[.bool !a1, .string a2, .int .i64 a3] 25)
    have A_0 := hA5.cell 0 rfl
    have A_z0 := hA5.frozen 0
    have A_1 := hA5.cell 1 rfl
    have A_z1 := hA5.frozen 1
    have A_2 := hA5.cell 2 rfl
    have A_z2 := hA5.frozen 2
    have B_0 := hB5.cell 0 rfl
    have B_z0 := hB5.frozen 0
    have B_1 := hB5.cell 1 rfl
    have B_z1 := hB5.frozen 1
    have B_2 := hB5.cell 2 rfl
    have B_z2 := hB5.frozen 2
    have nAB : w4.heap.size ≠ w2.heap.size := by
      have := hB5.lt
      have h0 := hA3.lt
      have hs := hb4.size
      omega
    have hA9 := hA5.set 0 (.bool !a1)
    have hB9 := hB5.other (off := 0) nAB (.bool !a1)
    have hW9 := hW5.setCell (p := ⟨w2.heap.size, 0, none⟩) (by show w.heap.size ≤ w2.heap.size; have := hW2.size; omega) (.bool !a1)
    go_wp2_with fail
    clear A_0 A_z0 A_1 A_z1 A_2 A_z2
    clear B_0 B_z0 B_1 B_z1 B_2 B_z2
    generalize (w4.alloc (.cells #[.bool !a1, .string a2, .int .i64 a3] 25)).setCell ⟨w2.heap.size, 0, none⟩ (.bool !a1) = V9 at *
    refine (h3 _).mono ?_
    rintro e w6 ⟨rfl, hb6⟩
    have hW6 := hW9.trans (hb6.mono hW9.size)
    have hA6 := hA9.below hb6
    have hB6 := hB9.below hb6
    go_wp2_with fail
    refine (h4 _).mono ?_
    rintro e w27 ⟨rfl, hb27⟩
    have hW27 := hW6.trans (hb27.mono hW6.size)
    have hA27 := hA6.below hb27
    have hB27 := hB6.below hb27
    go_wp2_with fail
    refine (h5 _).mono ?_
    rintro e w28 ⟨rfl, hb28⟩
    have hW28 := hW27.trans (hb28.mono hW27.size)
    have hA28 := hA27.below hb28
    have hB28 := hB27.below hb28
    go_wp2
    go_ret
    exact ⟨rfl, hW28⟩
end Go.Proofs.YtfobaeoccpebeaaGreatDoor

/- The statement FloatTurns (targumlaw05): walked. -/
namespace Go.Proofs.YtfobaeoccpebeaaGreatDoor
open Go.RowKit Go.Shelf
attribute [local go_sem] Oper.semAt_some

theorem mk_len (n : Bool) (l : List UInt8) (x : Int) : (mk n l x).1.dg.length ≤ 100 := by
  unfold mk
  split
  · split
    · show Dz.dg.length ≤ 100; decide
    · split
      · rename_i h; exact (decR_bounds h).1
      · show D0.dg.length ≤ 100; decide
  · show D0.dg.length ≤ 100; decide
theorem td_len (x : Nat) : (toDecS x).1.dg.length ≤ 100 := by
  unfold toDecS
  split
  · show D0.dg.length ≤ 100; decide
  · split
    · show Dz.dg.length ≤ 100; decide
    · split
      · exact mk_len _ _ _
      · show D0.dg.length ≤ 100; decide
theorem td_zero : toDecS 0 = (Dz, 0) := by
  have hV : tdV 0 = 0 := by decide
  unfold toDecS
  rw [if_neg (by decide), if_pos hV]
/-- a text's first letters. -/
def fpre (s : ByteArray) : ByteArray := s.extract 0 (min s.size 150)
theorem fpre_size (s : ByteArray) : (fpre s).size ≤ 150 := by
  rw [← len_str, show (fpre s).data.toList = tx (fpre s) from rfl, show tx (fpre s) = (tx s).take (min s.size 150) from extract_take s _, List.length_take]
  omega

set_option maxRecDepth 100000 in
set_option maxHeartbeats 4000000 in
theorem fturns_law (x : Nat) (hx : x < 18446744073709551616) (n : Bool) (s : ByteArray) (y : Int) (w : World) (hT : Tab6 w) :
    Calls Tryz.prog 5 #[.int .u64 x, .agg #[.bool n, .string s, .int .i64 y]] w fun e w' => e = .returned (.bool true) ∧ Below w.heap.size w w' := by
  obtain ⟨t, ht⟩ : ∃ t, fpre s = t := ⟨_, rfl⟩
  have hp : s.extract 0 (min (s.size : Int) 150).toNat = t := by rw [← ht, fpre]; congr 1; omega
  have hts : t.size ≤ 150 := by rw [← ht]; exact fpre_size _
  clear ht
  have hp1 := fturns_plain hx
  have h1 := fun W h => toDec_calls x hx W h
  obtain ⟨a1, ha1⟩ : ∃ r, ((toDecS x).1).neg = r := ⟨_, rfl⟩
  obtain ⟨a2, ha2⟩ : ∃ r, B ((toDecS x).1).dg = r := ⟨_, rfl⟩
  obtain ⟨a3, ha3⟩ : ∃ r, ((toDecS x).1).ex = r := ⟨_, rfl⟩
  have hav : ((toDecS x).1).val = .agg #[.bool a1, .string a2, .int .i64 a3] := by rw [← ha1, ← ha2, ← ha3]; rfl
  have hal : a2.size ≤ 100 := by rw [← ha2, size_B]; exact td_len x
  have hD : (⟨a1, tx a2, a3⟩ : D) = (toDecS x).1 := by rw [← ha1, ← ha2, ← ha3, tx_B]
  obtain ⟨e1, he1⟩ : ∃ r, (toDecS x).2 = r := ⟨_, rfl⟩
  have h2 := fun W h => ofDec_calls a1 a2 a3 (by omega) W h
  have h5 := fun W => decRight_calls a1 a2 a3 (by omega) W
  rw [hav, he1] at h1
  rw [hD] at h2 h5
  obtain ⟨b, hb⟩ : ∃ v, ofV (toDecS x).1 = v := ⟨_, rfl⟩
  obtain ⟨ok, hok⟩ : ∃ v, ofOk (toDecS x).1 = v := ⟨_, rfl⟩
  obtain ⟨ri, hri⟩ : ∃ v, decR (toDecS x).1 = v := ⟨_, rfl⟩
  rw [hb, hok] at h2
  rw [hri] at h5
  rw [he1, hri, hok, hb] at hp1
  obtain ⟨xi, hxi⟩ : ∃ v : Int, (x : Int) = v := ⟨_, rfl⟩
  obtain ⟨bi, hbi⟩ : ∃ v : Int, (b : Int) = v := ⟨_, rfl⟩
  rw [hxi] at h1 ⊢
  rw [hbi] at h2
  have hp2 : (e1 == 0) = false ∧ (e1 != 0) = true ∨ (e1 = 0 ∧ ri = true ∧ ok = true ∧ (((bi != xi) = false ∧ (xi == 9223372036854775808) = false) ∨ ((bi != xi) = true ∧ (xi != 9223372036854775808) = false ∧ (xi == 9223372036854775808) = true ∧ (bi != 0) = false))) := by
    rcases hp1 with g | ⟨g1, g2, g3, g4⟩
    · exact .inl ⟨beq_eq_false_iff_ne.2 g, bne_iff_ne.2 g⟩
    · refine .inr ⟨g1, g2, g3, ?_⟩
      rcases g4 with ⟨g4, g5⟩ | ⟨g4, g5⟩
      · refine .inl ⟨?_, beq_eq_false_iff_ne.2 (by omega)⟩
        rw [← hxi, ← hbi, g5]; simp
      · refine .inr ⟨bne_iff_ne.2 (by omega), ?_, ?_, ?_⟩
        · rw [← hxi, g4]; decide
        · rw [← hxi, g4]; decide
        · rw [← hbi, g5]; decide
  have h3 := fun W h => ofDec_calls n t y (by omega) W h
  have hof : (ofOk ⟨n, tx t, y⟩ = true ∧ (toDecS (ofV ⟨n, tx t, y⟩)).1.val = .agg #[.bool n, .string t, .int .i64 y] ∧ (toDecS (ofV ⟨n, tx t, y⟩)).2 = 0) ∨ (ofOk ⟨n, tx t, y⟩ = false ∧ (toDecS (ofV ⟨n, tx t, y⟩)).1.val = .agg #[.bool false, .string ⟨#[48]⟩, .int .i64 0] ∧ (toDecS (ofV ⟨n, tx t, y⟩)).2 = 0) := by
    cases h : ofOk ⟨n, tx t, y⟩ with
    | true =>
      have g := (of_to h).2
      refine .inl ⟨rfl, ?_, by rw [g]⟩
      rw [g]
      show DV n (B (tx t)) y = _
      rw [B_tx]; rfl
    | false =>
      refine .inr ⟨rfl, ?_, ?_⟩
      · rw [ofV_no h, td_zero]; rfl
      · rw [ofV_no h, td_zero]
  have h4 := fun W h => toDec_calls (ofV ⟨n, tx t, y⟩) (ofV_lt _) W h
  obtain ⟨c, hc⟩ : ∃ v, ofV ⟨n, tx t, y⟩ = v := ⟨_, rfl⟩
  obtain ⟨oi, hoi⟩ : ∃ v, ofOk ⟨n, tx t, y⟩ = v := ⟨_, rfl⟩
  rw [hc, hoi] at h3
  rw [hc] at h4 hof
  rw [hoi] at hof
  have heq := eqD_same5 n t y
  have hg := guardD
  clear hav he1 ha1 ha2 ha3 hal hD hb hok hri hxi hbi hp1 hc hoi hx hts
  rcases hof with ⟨rfl, hof1, hof2⟩ | ⟨rfl, hof1, hof2⟩
  all_goals (rw [hof1, hof2] at h4; clear hof1 hof2)
  · rcases hp2 with ⟨g1, g2⟩ | ⟨rfl, rfl, rfl, g⟩
    · skip
      have hD1 := Cls.new w 25 [.bool n, .string s, .int .i64 y]
      have hW1 := below_alloc w (.cells #[.bool n, .string s, .int .i64 y] 25)
      go_enter Tryz.func5, Tryz.ntmps5
      go_wp2_with fail
      refine (fshown_calls _ (hT.below hW1)).mono ?_
      rintro e w2 ⟨rfl, hb2⟩
      have hW2 := hW1.trans (hb2.mono hW1.size)
      have hD2 := hD1.below hb2
      have D_0 := hD2.cell 0 rfl
      have D_z0 := hD2.frozen 0
      have D_1 := hD2.cell 1 rfl
      have D_z1 := hD2.frozen 1
      have D_2 := hD2.cell 2 rfl
      have D_z2 := hD2.frozen 2
      have hD9 := hD2.set 1 (.string t)
      have hW9 := hW2.setCell (p := ⟨w.heap.size, 1, none⟩) (Nat.le_refl _) (.string t)
      go_wp2_with fail
      clear D_0 D_z0 D_1 D_z1 D_2 D_z2
      generalize w2.setCell ⟨w.heap.size, 1, none⟩ (.string t) = V9 at *
      refine (h1 _ (hT.below hW9)).mono ?_
      rintro e w11 ⟨rfl, hb11⟩
      have hW11 := hW9.trans (hb11.mono hW9.size)
      have hD11 := hD9.below hb11
      have hD12 := hD11.alloc (.cells #[.bool a1, .string a2, .int .i64 a3] 25)
      have hX12 := Cls.new w11 25 [.bool a1, .string a2, .int .i64 a3]
      have hW12 := hW11.alloc hW11.size (.cells #[.bool a1, .string a2, .int .i64 a3] 25)
      have X_0 := hX12.cell 0 rfl
      have X_1 := hX12.cell 1 rfl
      have X_2 := hX12.cell 2 rfl
      go_wp2_with fail
      clear X_0 X_1 X_2
      generalize w11.alloc (.cells #[.bool a1, .string a2, .int .i64 a3] 25) = V10 at *
      refine (h2 _ (Tab6.tabs (hT.below hW12))).mono ?_
      rintro e w13 ⟨rfl, hb13⟩
      have hW13 := hW12.trans (hb13.mono hW12.size)
      have hD13 := hD12.below hb13
      have hX13 := hX12.below hb13
      have D_0 := hD13.cell 0 rfl
      have D_1 := hD13.cell 1 rfl
      have D_2 := hD13.cell 2 rfl
      go_wp2_with fail
      clear D_0 D_1 D_2
      refine (h3 _ (Tab6.tabs (hT.below hW13))).mono ?_
      rintro e w14 ⟨rfl, hb14⟩
      have hW14 := hW13.trans (hb14.mono hW13.size)
      have hD14 := hD13.below hb14
      have hX14 := hX13.below hb14
      go_wp2_with fail
      refine (h4 _ (hT.below hW14)).mono ?_
      rintro e w15 ⟨rfl, hb15⟩
      have hW15 := hW14.trans (hb15.mono hW14.size)
      have hD15 := hD14.below hb15
      have hX15 := hX14.below hb15
      have hD16 := hD15.alloc (.cells #[.bool n, .string t, .int .i64 y] 25)
      have hX16 := hX15.alloc (.cells #[.bool n, .string t, .int .i64 y] 25)
      have hY16 := Cls.new w15 25 [.bool n, .string t, .int .i64 y]
      have hW16 := hW15.alloc hW15.size (.cells #[.bool n, .string t, .int .i64 y] 25)
      have D_0 := hD16.cell 0 rfl
      have D_1 := hD16.cell 1 rfl
      have D_2 := hD16.cell 2 rfl
      have Y_0 := hY16.cell 0 rfl
      have Y_1 := hY16.cell 1 rfl
      have Y_2 := hY16.cell 2 rfl
      go_wp2
      go_ret
      exact ⟨rfl, hW16⟩
    · rcases g with ⟨g1, g2⟩ | ⟨g1, g2, g3, g4⟩
      all_goals (
        have hD1 := Cls.new w 25 [.bool n, .string s, .int .i64 y]
        have hW1 := below_alloc w (.cells #[.bool n, .string s, .int .i64 y] 25)
        go_enter Tryz.func5, Tryz.ntmps5
        go_wp2_with fail
        refine (fshown_calls _ (hT.below hW1)).mono ?_
        rintro e w2 ⟨rfl, hb2⟩
        have hW2 := hW1.trans (hb2.mono hW1.size)
        have hD2 := hD1.below hb2
        have D_0 := hD2.cell 0 rfl
        have D_z0 := hD2.frozen 0
        have D_1 := hD2.cell 1 rfl
        have D_z1 := hD2.frozen 1
        have D_2 := hD2.cell 2 rfl
        have D_z2 := hD2.frozen 2
        have hD9 := hD2.set 1 (.string t)
        have hW9 := hW2.setCell (p := ⟨w.heap.size, 1, none⟩) (Nat.le_refl _) (.string t)
        go_wp2_with fail
        clear D_0 D_z0 D_1 D_z1 D_2 D_z2
        generalize w2.setCell ⟨w.heap.size, 1, none⟩ (.string t) = V9 at *
        refine (h1 _ (hT.below hW9)).mono ?_
        rintro e w11 ⟨rfl, hb11⟩
        have hW11 := hW9.trans (hb11.mono hW9.size)
        have hD11 := hD9.below hb11
        have hD12 := hD11.alloc (.cells #[.bool a1, .string a2, .int .i64 a3] 25)
        have hX12 := Cls.new w11 25 [.bool a1, .string a2, .int .i64 a3]
        have hW12 := hW11.alloc hW11.size (.cells #[.bool a1, .string a2, .int .i64 a3] 25)
        have X_0 := hX12.cell 0 rfl
        have X_1 := hX12.cell 1 rfl
        have X_2 := hX12.cell 2 rfl
        go_wp2_with fail
        clear X_0 X_1 X_2
        generalize w11.alloc (.cells #[.bool a1, .string a2, .int .i64 a3] 25) = V10 at *
        refine (h2 _ (Tab6.tabs (hT.below hW12))).mono ?_
        rintro e w13 ⟨rfl, hb13⟩
        have hW13 := hW12.trans (hb13.mono hW12.size)
        have hD13 := hD12.below hb13
        have hX13 := hX12.below hb13
        have D_0 := hD13.cell 0 rfl
        have D_1 := hD13.cell 1 rfl
        have D_2 := hD13.cell 2 rfl
        go_wp2_with fail
        clear D_0 D_1 D_2
        refine (h3 _ (Tab6.tabs (hT.below hW13))).mono ?_
        rintro e w14 ⟨rfl, hb14⟩
        have hW14 := hW13.trans (hb14.mono hW13.size)
        have hD14 := hD13.below hb14
        have hX14 := hX13.below hb14
        go_wp2_with fail
        refine (h4 _ (hT.below hW14)).mono ?_
        rintro e w15 ⟨rfl, hb15⟩
        have hW15 := hW14.trans (hb15.mono hW14.size)
        have hD15 := hD14.below hb15
        have hX15 := hX14.below hb15
        have hD16 := hD15.alloc (.cells #[.bool n, .string t, .int .i64 y] 25)
        have hX16 := hX15.alloc (.cells #[.bool n, .string t, .int .i64 y] 25)
        have hY16 := Cls.new w15 25 [.bool n, .string t, .int .i64 y]
        have hW16 := hW15.alloc hW15.size (.cells #[.bool n, .string t, .int .i64 y] 25)
        have X_0 := hX16.cell 0 rfl
        have X_1 := hX16.cell 1 rfl
        have X_2 := hX16.cell 2 rfl
        go_wp2_with fail
        clear X_0 X_1 X_2
        generalize w15.alloc (.cells #[.bool n, .string t, .int .i64 y] 25) = V11 at *
        refine (h5 _).mono ?_
        rintro e w17 ⟨rfl, hb17⟩
        have hW17 := hW16.trans (hb17.mono hW16.size)
        have hD17 := hD16.below hb17
        have hX17 := hX16.below hb17
        have hY17 := hY16.below hb17
        have D_0 := hD17.cell 0 rfl
        have D_1 := hD17.cell 1 rfl
        have D_2 := hD17.cell 2 rfl
        have Y_0 := hY17.cell 0 rfl
        have Y_1 := hY17.cell 1 rfl
        have Y_2 := hY17.cell 2 rfl
        go_wp2
        go_ret
        exact ⟨rfl, hW17⟩)
  · rcases hp2 with ⟨g1, g2⟩ | ⟨rfl, rfl, rfl, g⟩
    · skip
      have hD1 := Cls.new w 25 [.bool n, .string s, .int .i64 y]
      have hW1 := below_alloc w (.cells #[.bool n, .string s, .int .i64 y] 25)
      go_enter Tryz.func5, Tryz.ntmps5
      go_wp2_with fail
      refine (fshown_calls _ (hT.below hW1)).mono ?_
      rintro e w2 ⟨rfl, hb2⟩
      have hW2 := hW1.trans (hb2.mono hW1.size)
      have hD2 := hD1.below hb2
      have D_0 := hD2.cell 0 rfl
      have D_z0 := hD2.frozen 0
      have D_1 := hD2.cell 1 rfl
      have D_z1 := hD2.frozen 1
      have D_2 := hD2.cell 2 rfl
      have D_z2 := hD2.frozen 2
      have hD9 := hD2.set 1 (.string t)
      have hW9 := hW2.setCell (p := ⟨w.heap.size, 1, none⟩) (Nat.le_refl _) (.string t)
      go_wp2_with fail
      clear D_0 D_z0 D_1 D_z1 D_2 D_z2
      generalize w2.setCell ⟨w.heap.size, 1, none⟩ (.string t) = V9 at *
      refine (h1 _ (hT.below hW9)).mono ?_
      rintro e w11 ⟨rfl, hb11⟩
      have hW11 := hW9.trans (hb11.mono hW9.size)
      have hD11 := hD9.below hb11
      have hD12 := hD11.alloc (.cells #[.bool a1, .string a2, .int .i64 a3] 25)
      have hX12 := Cls.new w11 25 [.bool a1, .string a2, .int .i64 a3]
      have hW12 := hW11.alloc hW11.size (.cells #[.bool a1, .string a2, .int .i64 a3] 25)
      have X_0 := hX12.cell 0 rfl
      have X_1 := hX12.cell 1 rfl
      have X_2 := hX12.cell 2 rfl
      go_wp2_with fail
      clear X_0 X_1 X_2
      generalize w11.alloc (.cells #[.bool a1, .string a2, .int .i64 a3] 25) = V10 at *
      refine (h2 _ (Tab6.tabs (hT.below hW12))).mono ?_
      rintro e w13 ⟨rfl, hb13⟩
      have hW13 := hW12.trans (hb13.mono hW12.size)
      have hD13 := hD12.below hb13
      have hX13 := hX12.below hb13
      have D_0 := hD13.cell 0 rfl
      have D_1 := hD13.cell 1 rfl
      have D_2 := hD13.cell 2 rfl
      go_wp2_with fail
      clear D_0 D_1 D_2
      refine (h3 _ (Tab6.tabs (hT.below hW13))).mono ?_
      rintro e w14 ⟨rfl, hb14⟩
      have hW14 := hW13.trans (hb14.mono hW13.size)
      have hD14 := hD13.below hb14
      have hX14 := hX13.below hb14
      go_wp2_with fail
      refine (h4 _ (hT.below hW14)).mono ?_
      rintro e w15 ⟨rfl, hb15⟩
      have hW15 := hW14.trans (hb15.mono hW14.size)
      have hD15 := hD14.below hb15
      have hX15 := hX14.below hb15
      have hD16 := hD15.alloc (.cells #[.bool false, .string ⟨#[48]⟩, .int .i64 0] 25)
      have hX16 := hX15.alloc (.cells #[.bool false, .string ⟨#[48]⟩, .int .i64 0] 25)
      have hY16 := Cls.new w15 25 [.bool false, .string ⟨#[48]⟩, .int .i64 0]
      have hW16 := hW15.alloc hW15.size (.cells #[.bool false, .string ⟨#[48]⟩, .int .i64 0] 25)
      go_wp2
      go_ret
      exact ⟨rfl, hW16⟩
    · rcases g with ⟨g1, g2⟩ | ⟨g1, g2, g3, g4⟩
      all_goals (
        have hD1 := Cls.new w 25 [.bool n, .string s, .int .i64 y]
        have hW1 := below_alloc w (.cells #[.bool n, .string s, .int .i64 y] 25)
        go_enter Tryz.func5, Tryz.ntmps5
        go_wp2_with fail
        refine (fshown_calls _ (hT.below hW1)).mono ?_
        rintro e w2 ⟨rfl, hb2⟩
        have hW2 := hW1.trans (hb2.mono hW1.size)
        have hD2 := hD1.below hb2
        have D_0 := hD2.cell 0 rfl
        have D_z0 := hD2.frozen 0
        have D_1 := hD2.cell 1 rfl
        have D_z1 := hD2.frozen 1
        have D_2 := hD2.cell 2 rfl
        have D_z2 := hD2.frozen 2
        have hD9 := hD2.set 1 (.string t)
        have hW9 := hW2.setCell (p := ⟨w.heap.size, 1, none⟩) (Nat.le_refl _) (.string t)
        go_wp2_with fail
        clear D_0 D_z0 D_1 D_z1 D_2 D_z2
        generalize w2.setCell ⟨w.heap.size, 1, none⟩ (.string t) = V9 at *
        refine (h1 _ (hT.below hW9)).mono ?_
        rintro e w11 ⟨rfl, hb11⟩
        have hW11 := hW9.trans (hb11.mono hW9.size)
        have hD11 := hD9.below hb11
        have hD12 := hD11.alloc (.cells #[.bool a1, .string a2, .int .i64 a3] 25)
        have hX12 := Cls.new w11 25 [.bool a1, .string a2, .int .i64 a3]
        have hW12 := hW11.alloc hW11.size (.cells #[.bool a1, .string a2, .int .i64 a3] 25)
        have X_0 := hX12.cell 0 rfl
        have X_1 := hX12.cell 1 rfl
        have X_2 := hX12.cell 2 rfl
        go_wp2_with fail
        clear X_0 X_1 X_2
        generalize w11.alloc (.cells #[.bool a1, .string a2, .int .i64 a3] 25) = V10 at *
        refine (h2 _ (Tab6.tabs (hT.below hW12))).mono ?_
        rintro e w13 ⟨rfl, hb13⟩
        have hW13 := hW12.trans (hb13.mono hW12.size)
        have hD13 := hD12.below hb13
        have hX13 := hX12.below hb13
        have D_0 := hD13.cell 0 rfl
        have D_1 := hD13.cell 1 rfl
        have D_2 := hD13.cell 2 rfl
        go_wp2_with fail
        clear D_0 D_1 D_2
        refine (h3 _ (Tab6.tabs (hT.below hW13))).mono ?_
        rintro e w14 ⟨rfl, hb14⟩
        have hW14 := hW13.trans (hb14.mono hW13.size)
        have hD14 := hD13.below hb14
        have hX14 := hX13.below hb14
        go_wp2_with fail
        refine (h4 _ (hT.below hW14)).mono ?_
        rintro e w15 ⟨rfl, hb15⟩
        have hW15 := hW14.trans (hb15.mono hW14.size)
        have hD15 := hD14.below hb15
        have hX15 := hX14.below hb15
        have hD16 := hD15.alloc (.cells #[.bool false, .string ⟨#[48]⟩, .int .i64 0] 25)
        have hX16 := hX15.alloc (.cells #[.bool false, .string ⟨#[48]⟩, .int .i64 0] 25)
        have hY16 := Cls.new w15 25 [.bool false, .string ⟨#[48]⟩, .int .i64 0]
        have hW16 := hW15.alloc hW15.size (.cells #[.bool false, .string ⟨#[48]⟩, .int .i64 0] 25)
        have X_0 := hX16.cell 0 rfl
        have X_1 := hX16.cell 1 rfl
        have X_2 := hX16.cell 2 rfl
        go_wp2_with fail
        clear X_0 X_1 X_2
        generalize w15.alloc (.cells #[.bool false, .string ⟨#[48]⟩, .int .i64 0] 25) = V11 at *
        refine (h5 _).mono ?_
        rintro e w17 ⟨rfl, hb17⟩
        have hW17 := hW16.trans (hb17.mono hW16.size)
        have hD17 := hD16.below hb17
        have hX17 := hX16.below hb17
        have hY17 := hY16.below hb17
        go_wp2
        go_ret
        exact ⟨rfl, hW17⟩)
end Go.Proofs.YtfobaeoccpebeaaGreatDoor

/- The statement FloatWholes (targumlaw05): walked. -/
namespace Go.Proofs.YtfobaeoccpebeaaGreatDoor
open Go.RowKit Go.Shelf
attribute [local go_sem] Oper.semAt_some

theorem fieldD1 (n : Bool) (s : ByteArray) (x : Int) (w : World) : (Instr.field 25 (.agg #[.bool n, .string s, .int .i64 x]) 1).run Tryz.prog w = .ok (.string s) w := by kernel_rfl
theorem fieldD2 (n : Bool) (s : ByteArray) (x : Int) (w : World) : (Instr.field 25 (.agg #[.bool n, .string s, .int .i64 x]) 2).run Tryz.prog w = .ok (.int .i64 x) w := by kernel_rfl

set_option maxRecDepth 100000 in
set_option maxHeartbeats 4000000 in
theorem fwholes_law (n : Nat) (_hn : n < 18446744073709551616) (neg : Bool) (w : World) (hT : Tab6 w) :
    Calls Tryz.prog 10 #[.int .u64 n, .bool neg] w fun e w' => e = .returned (.bool true) ∧ Below w.heap.size w w' := by
  obtain ⟨r, hr⟩ : ∃ r, n % 9007199254740992 = r := ⟨_, rfl⟩
  have hri : (n : Int) % 9007199254740992 = (r : Int) := by omega
  have hrl : r < 9007199254740992 := by omega
  obtain ⟨m, hm⟩ : ∃ m, r % 1000000007 = m := ⟨_, rfl⟩
  have hmi : (r : Int) % 1000000007 = (m : Int) := by omega
  have hml : m < 1000000007 := by omega
  obtain ⟨m5, hm5⟩ : ∃ v, 5 * m = v := ⟨_, rfl⟩
  have hm5i : 5 * (m : Int) = (m5 : Int) := by omega
  have hm5w : IntKind.u64.wrap (m5 : Int) = (m5 : Int) := IntWalk.u64_in _ (by omega)
  obtain ⟨d, hd⟩ : ∃ d, (mk neg (Lib.decDigits r) 0).1 = d := ⟨_, rfl⟩
  obtain ⟨g, hgg⟩ : ∃ d, (mk false (Lib.decDigits (5 * m)) 0).1 = d := ⟨_, rfl⟩
  obtain ⟨p1, p2⟩ := fwholes_plain neg hrl d hd
  obtain ⟨q1, q2, q3, q4⟩ := fhalf_plain neg hml g hgg
  obtain ⟨o1, o2⟩ := of_to p1
  obtain ⟨o3, o4⟩ := of_to q2
  have h1 := fun W h => ofInt_calls neg r (by omega) W h
  rw [hd] at h1
  rw [hm5] at hgg
  have h5 := fun W h => ofInt_calls false m5 (by omega) W h
  rw [hgg] at h5
  have hdl : d.dg.length ≤ 100 := by rw [← hd]; exact mk_len _ _ _
  have hgl : g.dg.length ≤ 100 := by rw [← hgg]; exact mk_len _ _ _
  have hdx : -1000 ≤ d.ex ∧ d.ex ≤ 1000 := by
    have h6 := p1
    unfold ofOk at h6
    have := decR_bounds ((Bool.and_eq_true _ _).mp h6).1
    omega
  obtain ⟨hf, hhf⟩ : ∃ v, (mk neg g.dg (g.ex - 1)).1 = v := ⟨_, rfl⟩
  rw [hhf] at q2 o3 o4
  have hfl : hf.dg.length ≤ 100 := by rw [← hhf]; exact mk_len _ _ _
  have h4 := fun W => decMake_calls neg (B d.dg) d.ex ⟨by omega, by omega⟩ (by rw [size_B]; omega) W
  rw [tx_B, p2] at h4
  have h7 := fun W => decMake_calls neg (B g.dg) (g.ex - 1) ⟨by omega, by omega⟩ (by rw [size_B]; omega) W
  rw [tx_B, q1, hhf] at h7
  have h2 := fun W h => ofDec_calls d.neg (B d.dg) d.ex (by rw [size_B]; omega) W h
  rw [tx_B] at h2
  change ∀ W, Tabs W → Calls _ _ _ _ fun e w' => e = .returned (.tuple #[.int .u64 (ofV d : Nat), .bool (ofOk d)]) ∧ _ at h2
  rw [p1] at h2
  have h3 := fun W h => toDec_calls (ofV d) o1 W h
  rw [o2] at h3
  have h8 := fun W h => ofDec_calls hf.neg (B hf.dg) hf.ex (by rw [size_B]; omega) W h
  rw [tx_B] at h8
  change ∀ W, Tabs W → Calls _ _ _ _ fun e w' => e = .returned (.tuple #[.int .u64 (ofV hf : Nat), .bool (ofOk hf)]) ∧ _ at h8
  rw [q2] at h8
  have h9 := fun W h => toDec_calls (ofV hf) o3 W h
  rw [o4] at h9
  obtain ⟨v1, hv1⟩ : ∃ v, ofV d = v := ⟨_, rfl⟩
  obtain ⟨v2, hv2⟩ : ∃ v, ofV hf = v := ⟨_, rfl⟩
  rw [hv1] at h2 h3
  rw [hv2] at h8 h9
  have hdv : d.val = .agg #[.bool d.neg, .string (B d.dg), .int .i64 d.ex] := rfl
  have hgv : g.val = .agg #[.bool g.neg, .string (B g.dg), .int .i64 g.ex] := rfl
  have hfv : hf.val = .agg #[.bool hf.neg, .string (B hf.dg), .int .i64 hf.ex] := rfl
  rw [hdv] at h1
  rw [hgv] at h5
  change ∀ W, Calls _ _ _ _ fun e w' => e = .returned (.tuple #[d.val, .int .i64 0]) ∧ _ at h4
  change ∀ W, Calls _ _ _ _ fun e w' => e = .returned (.tuple #[hf.val, .int .i64 0]) ∧ _ at h7
  change ∀ W, Tab6 W → Calls _ _ _ _ fun e w' => e = .returned (.tuple #[d.val, .int .i64 0]) ∧ _ at h3
  change ∀ W, Tab6 W → Calls _ _ _ _ fun e w' => e = .returned (.tuple #[hf.val, .int .i64 0]) ∧ _ at h9
  rw [hdv] at h3 h4
  rw [hfv] at h7 h9
  have hxw : IntKind.i64.wrap (g.ex - 1) = g.ex - 1 := IntWalk.i64_in _ (by omega)
  obtain ⟨d1, kd1⟩ : ∃ v, d.neg = v := ⟨_, rfl⟩
  obtain ⟨d2, kd2⟩ : ∃ v, B d.dg = v := ⟨_, rfl⟩
  obtain ⟨d3, kd3⟩ : ∃ v, d.ex = v := ⟨_, rfl⟩
  obtain ⟨g1, kg1⟩ : ∃ v, g.neg = v := ⟨_, rfl⟩
  obtain ⟨g2, kg2⟩ : ∃ v, B g.dg = v := ⟨_, rfl⟩
  obtain ⟨g3, kg3⟩ : ∃ v, g.ex = v := ⟨_, rfl⟩
  obtain ⟨f1, kf1⟩ : ∃ v, hf.neg = v := ⟨_, rfl⟩
  obtain ⟨f2, kf2⟩ : ∃ v, B hf.dg = v := ⟨_, rfl⟩
  obtain ⟨f3, kf3⟩ : ∃ v, hf.ex = v := ⟨_, rfl⟩
  rw [kd1, kd2, kd3] at h1 h2 h3 h4
  rw [kg1, kg2, kg3] at h5
  rw [kg2, kg3] at h7
  rw [kf1, kf2, kf3] at h7 h8 h9
  rw [kg3] at hxw
  obtain ⟨gx, hgx⟩ : ∃ v, g3 - 1 = v := ⟨_, rfl⟩
  rw [hgx] at h7 hxw
  have hf1 := fieldD1 g1 g2 g3
  have hf2 := fieldD2 g1 g2 g3
  have heq1 := eqD_same5 d1 d2 d3
  have heq2 := eqD_same5 f1 f2 f3
  have hg := guardD
  clear hr hrl hm hml hm5 hd hgg p1 p2 q1 q2 q3 q4 o1 o2 o3 o4 hdl hgl hdx hhf hfl hv1 hv2 hdv hgv hfv kd1 kd2 kd3 kg1 kg2 kg3 kf1 kf2 kf3
  go_enter Tryz.func10, Tryz.ntmps10
  go_wp2_with fail
  refine (fshown_calls _ hT).mono ?_
  rintro e w1 ⟨rfl, hb1⟩
  have hW1 := hb1
  go_wp2_with fail
  refine (h1 _ (Tab6.tabs (hT.below hW1))).mono ?_
  rintro e w2 ⟨rfl, hb2⟩
  have hW2 := hW1.trans (hb2.mono hW1.size)
  have hD3 := Cls.new w2 25 [.bool d1, .string d2, .int .i64 d3]
  have hW3 := hW2.alloc hW2.size (.cells #[.bool d1, .string d2, .int .i64 d3] 25)
  have D_0 := hD3.cell 0 rfl
  have D_1 := hD3.cell 1 rfl
  have D_2 := hD3.cell 2 rfl
  go_wp2_with fail
  clear D_0 D_1 D_2
  generalize w2.alloc (.cells #[.bool d1, .string d2, .int .i64 d3] 25) = V21 at *
  refine (h2 _ (Tab6.tabs (hT.below hW3))).mono ?_
  rintro e w4 ⟨rfl, hb4⟩
  have hW4 := hW3.trans (hb4.mono hW3.size)
  have hD4 := hD3.below hb4
  go_wp2_with fail
  refine (h3 _ (hT.below hW4)).mono ?_
  rintro e w5 ⟨rfl, hb5⟩
  have hW5 := hW4.trans (hb5.mono hW4.size)
  have hD5 := hD4.below hb5
  have hD6 := hD5.alloc (.cells #[.bool d1, .string d2, .int .i64 d3] 25)
  have hX6 := Cls.new w5 25 [.bool d1, .string d2, .int .i64 d3]
  have hW6 := hW5.alloc hW5.size (.cells #[.bool d1, .string d2, .int .i64 d3] 25)
  have D_0 := hD6.cell 0 rfl
  have D_1 := hD6.cell 1 rfl
  have D_2 := hD6.cell 2 rfl
  go_wp2_with fail
  clear D_0 D_1 D_2
  generalize w5.alloc (.cells #[.bool d1, .string d2, .int .i64 d3] 25) = V22 at *
  refine (h4 _).mono ?_
  rintro e w7 ⟨rfl, hb7⟩
  have hW7 := hW6.trans (hb7.mono hW6.size)
  have hD7 := hD6.below hb7
  have hX7 := hX6.below hb7
  have hD8 := hD7.alloc (.cells #[.bool d1, .string d2, .int .i64 d3] 25)
  have hX8 := hX7.alloc (.cells #[.bool d1, .string d2, .int .i64 d3] 25)
  have hH8 := Cls.new w7 25 [.bool d1, .string d2, .int .i64 d3]
  have hW8 := hW7.alloc hW7.size (.cells #[.bool d1, .string d2, .int .i64 d3] 25)
  go_wp2_with fail
  generalize w7.alloc (.cells #[.bool d1, .string d2, .int .i64 d3] 25) = V23 at *
  refine (h5 _ (Tab6.tabs (hT.below hW8))).mono ?_
  rintro e w9 ⟨rfl, hb9⟩
  have hW9 := hW8.trans (hb9.mono hW8.size)
  have hD9 := hD8.below hb9
  have hX9 := hX8.below hb9
  have hH9 := hH8.below hb9
  go_wp2_with fail
  refine (h5 _ (Tab6.tabs (hT.below hW9))).mono ?_
  rintro e w10 ⟨rfl, hb10⟩
  have hW10 := hW9.trans (hb10.mono hW9.size)
  have hD10 := hD9.below hb10
  have hX10 := hX9.below hb10
  have hH10 := hH9.below hb10
  go_wp2_with fail
  refine (h7 _).mono ?_
  rintro e w11 ⟨rfl, hb11⟩
  have hW11 := hW10.trans (hb11.mono hW10.size)
  have hD11 := hD10.below hb11
  have hX11 := hX10.below hb11
  have hH11 := hH10.below hb11
  have hD12 := hD11.alloc (.cells #[.bool f1, .string f2, .int .i64 f3] 25)
  have hX12 := hX11.alloc (.cells #[.bool f1, .string f2, .int .i64 f3] 25)
  have hH12 := hH11.alloc (.cells #[.bool f1, .string f2, .int .i64 f3] 25)
  have hF12 := Cls.new w11 25 [.bool f1, .string f2, .int .i64 f3]
  have hW12 := hW11.alloc hW11.size (.cells #[.bool f1, .string f2, .int .i64 f3] 25)
  have F_0 := hF12.cell 0 rfl
  have F_1 := hF12.cell 1 rfl
  have F_2 := hF12.cell 2 rfl
  go_wp2_with fail
  clear F_0 F_1 F_2
  generalize w11.alloc (.cells #[.bool f1, .string f2, .int .i64 f3] 25) = V24 at *
  refine (h8 _ (Tab6.tabs (hT.below hW12))).mono ?_
  rintro e w13 ⟨rfl, hb13⟩
  have hW13 := hW12.trans (hb13.mono hW12.size)
  have hD13 := hD12.below hb13
  have hX13 := hX12.below hb13
  have hH13 := hH12.below hb13
  have hF13 := hF12.below hb13
  go_wp2_with fail
  refine (h9 _ (hT.below hW13)).mono ?_
  rintro e w14 ⟨rfl, hb14⟩
  have hW14 := hW13.trans (hb14.mono hW13.size)
  have hD14 := hD13.below hb14
  have hX14 := hX13.below hb14
  have hH14 := hH13.below hb14
  have hF14 := hF13.below hb14
  have hD15 := hD14.alloc (.cells #[.bool f1, .string f2, .int .i64 f3] 25)
  have hX15 := hX14.alloc (.cells #[.bool f1, .string f2, .int .i64 f3] 25)
  have hH15 := hH14.alloc (.cells #[.bool f1, .string f2, .int .i64 f3] 25)
  have hF15 := hF14.alloc (.cells #[.bool f1, .string f2, .int .i64 f3] 25)
  have hY15 := Cls.new w14 25 [.bool f1, .string f2, .int .i64 f3]
  have hW15 := hW14.alloc hW14.size (.cells #[.bool f1, .string f2, .int .i64 f3] 25)
  have D_0 := hD15.cell 0 rfl
  have D_1 := hD15.cell 1 rfl
  have D_2 := hD15.cell 2 rfl
  have X_0 := hX15.cell 0 rfl
  have X_1 := hX15.cell 1 rfl
  have X_2 := hX15.cell 2 rfl
  have H_0 := hH15.cell 0 rfl
  have H_1 := hH15.cell 1 rfl
  have H_2 := hH15.cell 2 rfl
  have F_0 := hF15.cell 0 rfl
  have F_1 := hF15.cell 1 rfl
  have F_2 := hF15.cell 2 rfl
  have Y_0 := hY15.cell 0 rfl
  have Y_1 := hY15.cell 1 rfl
  have Y_2 := hY15.cell 2 rfl
  go_wp2
  go_ret
  exact ⟨rfl, hW15⟩
end Go.Proofs.YtfobaeoccpebeaaGreatDoor

