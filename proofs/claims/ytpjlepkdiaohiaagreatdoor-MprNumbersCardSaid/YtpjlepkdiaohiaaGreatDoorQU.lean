/- QU: MqU. -/
import Derived.Test.YtpjlepkdiaohiaaGreatDoorPZ
import Derived.Test.YtpjlepkdiaohiaaGreatDoorPK
import Derived.Deep.RegionHeld3
/- The statement MprNumbers: walked. -/
namespace Go.Proofs.YtpjlepkdiaohiaaGreatDoor
open Go.RowKit
attribute [local go_sem] Oper.semAt_some

/-- a number's item, in one of four widths. -/
theorem plus_rd (c k n : Nat) (hc : (c = 204 ∧ k = 1) ∨ (c = 205 ∧ k = 2) ∨ (c = 206 ∧ k = 4) ∨ (c = 207 ∧ k = 8)) (hn : n < 256 ^ k) : rd 16 (ch c :: beL k n) = .ok (.nd (decP false n) []) [] := by
  rw [← List.append_nil (beL k n)]
  rcases hc with ⟨rfl, rfl⟩ | ⟨rfl, rfl⟩ | ⟨rfl, rfl⟩ | ⟨rfl, rfl⟩
  · rw [rd_ch 15 _ (by decide), show rhd (rd 15) 204 (beL 1 n ++ []) = rnum 1 (beL 1 n ++ []) fun m r => .ok (.nd (plusP m) []) r from rfl, rnum_be, Nat.mod_eq_of_lt hn]; rfl
  · rw [rd_ch 15 _ (by decide), show rhd (rd 15) 205 (beL 2 n ++ []) = rnum 2 (beL 2 n ++ []) fun m r => .ok (.nd (plusP m) []) r from rfl, rnum_be, Nat.mod_eq_of_lt hn]; rfl
  · rw [rd_ch 15 _ (by decide), show rhd (rd 15) 206 (beL 4 n ++ []) = rnum 4 (beL 4 n ++ []) fun m r => .ok (.nd (plusP m) []) r from rfl, rnum_be, Nat.mod_eq_of_lt hn]; rfl
  · rw [rd_ch 15 _ (by decide), show rhd (rd 15) 207 (beL 8 n ++ []) = rnum 8 (beL 8 n ++ []) fun m r => .ok (.nd (plusP m) []) r from rfl, rnum_be, Nat.mod_eq_of_lt hn]; rfl
theorem minus_rd (c k m X : Nat) (hc : (c = 208 ∧ k = 1) ∨ (c = 209 ∧ k = 2) ∨ (c = 211 ∧ k = 8)) (hm : 1 ≤ m ∧ m ≤ 128) (hX : X + m = 256 ^ k) : rd 16 (ch c :: beL k X) = .ok (.nd (decP true m) []) [] := by
  rw [← List.append_nil (beL k X)]
  rcases hc with ⟨rfl, rfl⟩ | ⟨rfl, rfl⟩ | ⟨rfl, rfl⟩
  · rw [rd_ch 15 _ (by decide), show rhd (rd 15) 208 (beL 1 X ++ []) = rnum 1 (beL 1 X ++ []) fun m r => .ok (.nd (intP 1 m) []) r from rfl, rnum_be, Nat.mod_eq_of_lt (by omega)]
    unfold intP
    rw [if_neg (by omega), show 256 ^ 1 - X = m by omega]
  · rw [rd_ch 15 _ (by decide), show rhd (rd 15) 209 (beL 2 X ++ []) = rnum 2 (beL 2 X ++ []) fun m r => .ok (.nd (intP 2 m) []) r from rfl, rnum_be, Nat.mod_eq_of_lt (by omega)]
    unfold intP
    rw [if_neg (by omega), show 256 ^ 2 - X = m by omega]
  · rw [rd_ch 15 _ (by decide), show rhd (rd 15) 211 (beL 8 X ++ []) = rnum 8 (beL 8 X ++ []) fun m r => .ok (.nd (intP 8 m) []) r from rfl, rnum_be, Nat.mod_eq_of_lt (by omega)]
    unfold intP
    rw [if_neg (by omega), show 256 ^ 8 - X = m by omega]
/-- a number that is read. -/
theorem num_item (P : ByteArray) (hP : P.size ≤ 1000000) (neg : Bool) (m : Nat) (hx : rd 16 (tx P) = .ok (.nd (decP neg m) []) []) (w : World) {ea eb : Addr} (hT : TabQ w ea eb) :
    Calls Tryz.prog 27 #[.string P] w fun e w' => Below w.heap.size w w' ∧ ∃ (a : Option Addr) (c : Nat), e = .returned (.tuple #[.agg #[.int .i64 3, .bool false, .bool (decP neg m).n, .string (decP neg m).dg, .int .i64 (decP neg m).ex, .int .u64 0, .int .i64 0, .string ⟨#[]⟩, .slice a 0 c], .string ⟨#[]⟩, .int .i64 0]) :=
  leaf_item P hP (decP neg m) ⟨#[]⟩ hx w hT
theorem num_same (neg : Bool) (m : Nat) (hm : m < 18446744073709551616) (a b : Option Addr) (c d : Nat) (W : World) :
    Calls Tryz.prog 18 #[.agg #[.int .i64 3, .bool false, .bool (decP neg m).n, .string (decP neg m).dg, .int .i64 (decP neg m).ex, .int .u64 0, .int .i64 0, .string ⟨#[]⟩, .slice a 0 c], .agg #[.int .i64 3, .bool false, .bool (decP neg m).n, .string (decP neg m).dg, .int .i64 (decP neg m).ex, .int .u64 0, .int .i64 0, .string ⟨#[]⟩, .slice b 0 d]] W fun e w' => e = .returned (.bool true) ∧ Below W.heap.size W w' :=
  leaf_same (decP neg m) (dec_fine neg m hm) a b c d W
theorem neqD_same (n : Bool) (s : ByteArray) (x : Int) (w : World) :
    (binOp .neq 23 (.agg #[.bool n, .string s, .int .i64 x]) (.agg #[.bool n, .string s, .int .i64 x])).run Tryz.prog w = .ok (.bool false) w := by
  have h := neqD n n s s x x w
  rw [show (n == n && (s.toList == s.toList && x == x)) = true by simp] at h
  exact h
theorem eqD_same14 (n : Bool) (s : ByteArray) (x : Int) (w : World) :
    (binOp .eql 23 (.agg #[.bool n, .string s, .int .i64 x]) (.agg #[.bool n, .string s, .int .i64 x])).run Tryz.prog w = .ok (.bool true) w := by
  have h := eqD n n s s x x w
  rw [show (n == n && (s.toList == s.toList && x == x)) = true by simp] at h
  exact h
/-- what stands in one byte of a number below 0. -/
def low7 (s : Nat) : Nat := (128 - s % 128) % 128
theorem low7_and : ∀ s : Fin 256, bits .and .u64 (IntKind.u64.wrap (-(s.val : Int))) 127 = (low7 s.val : Nat) := by decide +kernel
theorem or1 : ∀ s : Fin 128, bits .or .u64 ((s.val : Nat) : Int) 128 = ((s.val + 128 : Nat) : Int) := by decide +kernel
theorem or2 : ∀ s : Fin 128, bits .or .u64 ((s.val : Nat) : Int) 65408 = ((s.val + 65408 : Nat) : Int) := by decide +kernel
theorem or8 : ∀ s : Fin 128, bits .or .u64 ((s.val : Nat) : Int) 18446744073709551488 = ((s.val + 18446744073709551488 : Nat) : Int) := by decide +kernel

set_option maxRecDepth 100000 in
set_option maxHeartbeats 16000000 in
theorem numbers_law14 (n : Nat) (hn : n < 18446744073709551616) (w : World) {ea eb : Addr} (hT : TabQ w ea eb) :
    Calls Tryz.prog 10 #[.int .u64 n] w fun e w' => e = .returned (.bool true) ∧ Below w.heap.size w w' := by
  have hsh := shown14_calls w hT
  obtain ⟨s, hs⟩ : ∃ s, n % 256 = s := ⟨_, rfl⟩
  have hs2 : s < 256 := by omega
  have h255 : bits .and .u64 (n : Int) 255 = ((s : Nat) : Int) := by
    have h := and_mask (x := n) (n := 8) hn 255 (by decide) (by decide)
    change bits .and .u64 (n : Int) 255 = ((n % 256 : Nat) : Int) at h
    rw [h, hs]
  have h127 := low7_and ⟨s, hs2⟩
  obtain ⟨z, hz⟩ : ∃ z, low7 s = z := ⟨_, rfl⟩
  have hz2 : z < 128 := by rw [← hz]; unfold low7; omega
  dsimp only at h127
  rw [hz] at h127
  have ho1 := or1 ⟨z, hz2⟩
  have ho2 := or2 ⟨z, hz2⟩
  have ho8 := or8 ⟨z, hz2⟩
  dsimp only at ho1 ho2 ho8

  have H255 := hid h255
  have H127 := hid h127
  have HO := hid (And.intro ho1 (And.intro ho2 ho8))
  have hnz : (decP true (128 - z)).n = true := by
    obtain ⟨-, -, -, h4, -⟩ := dec_whole true (128 - z) (by omega)
    rw [h4, decide_eq_true (by omega)]; rfl
  obtain ⟨an, ad, ax, hA⟩ : ∃ an ad ax, (decP false n).n = an ∧ (decP false n).dg = ad ∧ (decP false n).ex = ax := ⟨_, _, _, rfl, rfl, rfl⟩
  obtain ⟨bn, bd, bx, hB⟩ : ∃ bn bd bx, (decP false s).n = bn ∧ (decP false s).dg = bd ∧ (decP false s).ex = bx := ⟨_, _, _, rfl, rfl, rfl⟩
  obtain ⟨cd, cx, hC⟩ : ∃ cd cx, (decP true (128 - z)).n = true ∧ (decP true (128 - z)).dg = cd ∧ (decP true (128 - z)).ex = cx := ⟨_, _, hnz, rfl, rfl⟩
  have hit : ∀ (c k X : Nat) (neg : Bool) (m : Nat), c < 256 → k ≤ 8 → rd 16 (ch c :: beL k X) = .ok (.nd (decP neg m) []) [] → ∀ W, Below w.heap.size w W → Calls Tryz.prog 27 #[.string (⟨#[ch c]⟩ ++ B (beL k X))] W fun e w' => Below W.heap.size W w' ∧ ∃ (a : Option Addr) (c : Nat), e = .returned (.tuple #[.agg #[.int .i64 3, .bool false, .bool (decP neg m).n, .string (decP neg m).dg, .int .i64 (decP neg m).ex, .int .u64 0, .int .i64 0, .string ⟨#[]⟩, .slice a 0 c], .string ⟨#[]⟩, .int .i64 0]) := fun c k X neg m hc hk hx W hW => num_item _ (by rw [ByteArray.size_append, size_B, beL_len]; show 1 + k ≤ _; omega) neg m (by rw [tx_c1]; exact hx) W (hT.below hW)
  have hcz : ∀ (c : UInt8) (k X : Nat), k ≤ 8 → ¬ 9223372036854775807 < (⟨#[c]⟩ : ByteArray).size + (B (beL k X)).size := fun c k X hk => by rw [size_B, beL_len]; show ¬ _ < 1 + k; omega
  have it0 := hit 207 8 n false n (by decide) (by decide) (plus_rd 207 8 n (by decide) (by omega))
  have nb0 := fun W => num14_calls n 8 (by omega) (by decide) W
  have z0 := hcz (ch 207) 8 n (by decide)
  have q0 : (⟨#[ch 207]⟩ : ByteArray) = ⟨#[207]⟩ := rfl
  rw [hA.1, hA.2.1, hA.2.2, q0] at it0
  rw [q0] at z0
  obtain ⟨P0, hP0⟩ : ∃ P, B (beL 8 n) = P := ⟨_, rfl⟩
  rw [hP0] at it0 nb0 z0
  have it1 := hit 204 1 s false s (by decide) (by decide) (plus_rd 204 1 s (by decide) (by omega))
  have nb1 := fun W => num14_calls s 1 (by omega) (by decide) W
  have z1 := hcz (ch 204) 1 s (by decide)
  have q1 : (⟨#[ch 204]⟩ : ByteArray) = ⟨#[204]⟩ := rfl
  rw [hB.1, hB.2.1, hB.2.2, q1] at it1
  rw [q1] at z1
  obtain ⟨P1, hP1⟩ : ∃ P, B (beL 1 s) = P := ⟨_, rfl⟩
  rw [hP1] at it1 nb1 z1
  have it2 := hit 205 2 s false s (by decide) (by decide) (plus_rd 205 2 s (by decide) (by omega))
  have nb2 := fun W => num14_calls s 2 (by omega) (by decide) W
  have z2 := hcz (ch 205) 2 s (by decide)
  have q2 : (⟨#[ch 205]⟩ : ByteArray) = ⟨#[205]⟩ := rfl
  rw [hB.1, hB.2.1, hB.2.2, q2] at it2
  rw [q2] at z2
  obtain ⟨P2, hP2⟩ : ∃ P, B (beL 2 s) = P := ⟨_, rfl⟩
  rw [hP2] at it2 nb2 z2
  have it3 := hit 206 4 s false s (by decide) (by decide) (plus_rd 206 4 s (by decide) (by omega))
  have nb3 := fun W => num14_calls s 4 (by omega) (by decide) W
  have z3 := hcz (ch 206) 4 s (by decide)
  have q3 : (⟨#[ch 206]⟩ : ByteArray) = ⟨#[206]⟩ := rfl
  rw [hB.1, hB.2.1, hB.2.2, q3] at it3
  rw [q3] at z3
  obtain ⟨P3, hP3⟩ : ∃ P, B (beL 4 s) = P := ⟨_, rfl⟩
  rw [hP3] at it3 nb3 z3
  have it4 := hit 208 1 (z + 128) true (128 - z) (by decide) (by decide) (minus_rd 208 1 (128 - z) (z + 128) (by decide) (by omega) (by omega))
  have nb4 := fun W => num14_calls (z + 128) 1 (by omega) (by decide) W
  have z4 := hcz (ch 208) 1 (z + 128) (by decide)
  have q4 : (⟨#[ch 208]⟩ : ByteArray) = ⟨#[208]⟩ := rfl
  rw [hC.1, hC.2.1, hC.2.2, q4] at it4
  rw [q4] at z4
  obtain ⟨P4, hP4⟩ : ∃ P, B (beL 1 (z + 128)) = P := ⟨_, rfl⟩
  rw [hP4] at it4 nb4 z4
  have it5 := hit 211 8 (z + 18446744073709551488) true (128 - z) (by decide) (by decide) (minus_rd 211 8 (128 - z) (z + 18446744073709551488) (by decide) (by omega) (by omega))
  have nb5 := fun W => num14_calls (z + 18446744073709551488) 8 (by omega) (by decide) W
  have z5 := hcz (ch 211) 8 (z + 18446744073709551488) (by decide)
  have q5 : (⟨#[ch 211]⟩ : ByteArray) = ⟨#[211]⟩ := rfl
  rw [hC.1, hC.2.1, hC.2.2, q5] at it5
  rw [q5] at z5
  obtain ⟨P5, hP5⟩ : ∃ P, B (beL 8 (z + 18446744073709551488)) = P := ⟨_, rfl⟩
  rw [hP5] at it5 nb5 z5
  have it6 := hit 209 2 (z + 65408) true (128 - z) (by decide) (by decide) (minus_rd 209 2 (128 - z) (z + 65408) (by decide) (by omega) (by omega))
  have nb6 := fun W => num14_calls (z + 65408) 2 (by omega) (by decide) W
  have z6 := hcz (ch 209) 2 (z + 65408) (by decide)
  have q6 : (⟨#[ch 209]⟩ : ByteArray) = ⟨#[209]⟩ := rfl
  rw [hC.1, hC.2.1, hC.2.2, q6] at it6
  rw [q6] at z6
  obtain ⟨P6, hP6⟩ : ∃ P, B (beL 2 (z + 65408)) = P := ⟨_, rfl⟩
  rw [hP6] at it6 nb6 z6
  have of0 := fun W => rofInt_calls false n hn W
  have of1 := fun W => rofInt_calls false s (by omega) W
  change ∀ W, Calls _ _ _ _ fun e w' => e = .returned (.agg #[.bool (decP false n).n, .string (decP false n).dg, .int .i64 (decP false n).ex]) ∧ _ at of0
  change ∀ W, Calls _ _ _ _ fun e w' => e = .returned (.agg #[.bool (decP false s).n, .string (decP false s).dg, .int .i64 (decP false s).ex]) ∧ _ at of1
  rw [hA.1, hA.2.1, hA.2.2] at of0
  rw [hB.1, hB.2.1, hB.2.2] at of1
  have sm1 := num_same false s (by omega)
  have sm2 := num_same true (128 - z) (by omega)
  rw [hB.1, hB.2.1, hB.2.2] at sm1
  rw [hC.1, hC.2.1, hC.2.2] at sm2
  have HN := hid (And.intro nb0 (And.intro nb1 (And.intro nb2 (And.intro nb3 (And.intro nb4 (And.intro nb5 (nb6)))))))
  have HI := hid (And.intro it0 (And.intro it1 (And.intro it2 (And.intro it3 (And.intro it4 (And.intro it5 (it6)))))))
  have HZ := hid (And.intro z0 (And.intro z1 (And.intro z2 (And.intro z3 (And.intro z4 (And.intro z5 (z6)))))))
  have HS := hid (And.intro of0 (And.intro of1 (And.intro sm1 sm2)))
  clear nb0 it0 z0 q0 hP0 nb1 it1 z1 q1 hP1 nb2 it2 z2 q2 hP2 nb3 it3 z3 q3 hP3 nb4 it4 z4 q4 hP4 nb5 it5 z5 q5 hP5 nb6 it6 z6 q6 hP6 of0 of1 sm1 sm2 hit hcz hA hB hC hnz ho1 ho2 ho8 h255 h127 hs hs2 hz hz2 hn hT
  go_enter Tryz.func10, Tryz.ntmps10
  go_wp2_with fail
  refine hsh.mono ?_
  rintro e w1 ⟨rfl, hb1⟩
  have HB := hid hb1
  clear hsh hb1
  go_wp2_with fail
  refine (HN.out.1 _).mono ?_
  rintro e u0 ⟨rfl, hu⟩
  have HB := hid (HB.out.trans (hu.mono HB.out.size))
  clear hu
  have hz := HZ.out.1
  go_wp2_with fail
  refine (HI.out.1 _ HB.out).mono ?_
  rintro e v0 ⟨hu, a0, c0, rfl⟩
  have hbA := HB.out.trans (hu.mono HB.out.size)
  have hC := Cls.new v0 27 [.int .i64 3, .bool false, .bool an, .string ad, .int .i64 ax, .int .u64 0, .int .i64 0, .string ⟨#[]⟩, .slice a0 0 c0]
  have hW := hbA.alloc hbA.size (.cells [.int .i64 3, .bool false, .bool an, .string ad, .int .i64 ax, .int .u64 0, .int .i64 0, .string ⟨#[]⟩, .slice a0 0 c0].toArray 27)
  clear hz hu hbA
  go_wp2_with fail
  generalize v0.alloc (.cells #[.int .i64 3, .bool false, .bool an, .string ad, .int .i64 ax, .int .u64 0, .int .i64 0, .string ⟨#[]⟩, .slice a0 0 c0] 27) = V0 at *
  have x0 := hC.cell 0 rfl
  have x2 := hC.cell 2 rfl
  have x3 := hC.cell 3 rfl
  have x4 := hC.cell 4 rfl
  have hq := neqD_same an ad ax
  clear hC
  go_region_held3 (fun w' => w'.cell? ⟨v0.heap.size, 0, none⟩ = some (.int .i64 3) ∧ w'.cell? ⟨v0.heap.size, 2, none⟩ = some (.bool an) ∧ w'.cell? ⟨v0.heap.size, 3, none⟩ = some (.string ad) ∧ w'.cell? ⟨v0.heap.size, 4, none⟩ = some (.int .i64 ax) ∧ Below w.heap.size w w')
    (first
      | (refine ⟨?_, ?_, ?_, ?_, ?_⟩ <;> first | assumption | exact cell_below (by assumption) hbX | exact below_nx (by assumption) hbX | exact Below.drew (by assumption) | exact below_nx (Below.drew (by assumption)) hbX)
      | go_keep
      | (go_split_ands
         refine ⟨?_, ?_, ?_, ?_, ?_⟩ <;> first | assumption | exact cell_below (by assumption) hbX | exact below_nx (by assumption) hbX | exact Below.drew (by assumption) | exact below_nx (Below.drew (by assumption)) hbX))
    (first
      | (go_at_call 21; refine (HS.out.1 _).mono ?_; rintro e wr ⟨rfl, hbX⟩))
  go_split_ands
  have HB : Hid (Below w.heap.size w wr) := hid (by assumption)
  clear x0 x2 x3 x4 hq hW
  have h255 := H255.out
  go_wp2_with fail
  refine (HN.out.2.1 _).mono ?_
  rintro e u1 ⟨rfl, hu⟩
  have HB := hid (HB.out.trans (hu.mono HB.out.size))
  clear hu
  have hz := HZ.out.2.1
  go_wp2_with fail
  refine (HI.out.2.1 _ HB.out).mono ?_
  rintro e v1 ⟨hu, a1, c1, rfl⟩
  have hbA := HB.out.trans (hu.mono HB.out.size)
  have HC1 := hid (Cls.new v1 27 [.int .i64 3, .bool false, .bool bn, .string bd, .int .i64 bx, .int .u64 0, .int .i64 0, .string ⟨#[]⟩, .slice a1 0 c1])
  have HB := hid (hbA.alloc hbA.size (.cells [.int .i64 3, .bool false, .bool bn, .string bd, .int .i64 bx, .int .u64 0, .int .i64 0, .string ⟨#[]⟩, .slice a1 0 c1].toArray 27))
  clear hz hu hbA
  go_wp2_with fail
  generalize v1.alloc (.cells #[.int .i64 3, .bool false, .bool bn, .string bd, .int .i64 bx, .int .u64 0, .int .i64 0, .string ⟨#[]⟩, .slice a1 0 c1] 27) = V1 at *
  clear h255
  refine (HN.out.2.2.1 _).mono ?_
  rintro e u2 ⟨rfl, hu⟩
  have HB := hid (HB.out.trans (hu.mono HB.out.size))
  have HC1 := hid (HC1.out.below hu)
  clear hu
  have hz := HZ.out.2.2.1
  go_wp2_with fail
  refine (HI.out.2.2.1 _ HB.out).mono ?_
  rintro e v2 ⟨hu, a2, c2, rfl⟩
  have hbA := HB.out.trans (hu.mono HB.out.size)
  have HC1 := hid ((HC1.out.below hu).alloc (.cells [.int .i64 3, .bool false, .bool bn, .string bd, .int .i64 bx, .int .u64 0, .int .i64 0, .string ⟨#[]⟩, .slice a2 0 c2].toArray 27))
  have HC2 := hid (Cls.new v2 27 [.int .i64 3, .bool false, .bool bn, .string bd, .int .i64 bx, .int .u64 0, .int .i64 0, .string ⟨#[]⟩, .slice a2 0 c2])
  have HB := hid (hbA.alloc hbA.size (.cells [.int .i64 3, .bool false, .bool bn, .string bd, .int .i64 bx, .int .u64 0, .int .i64 0, .string ⟨#[]⟩, .slice a2 0 c2].toArray 27))
  clear hz hu hbA
  go_wp2_with fail
  generalize v2.alloc (.cells #[.int .i64 3, .bool false, .bool bn, .string bd, .int .i64 bx, .int .u64 0, .int .i64 0, .string ⟨#[]⟩, .slice a2 0 c2] 27) = V2 at *
  refine (HN.out.2.2.2.1 _).mono ?_
  rintro e u3 ⟨rfl, hu⟩
  have HB := hid (HB.out.trans (hu.mono HB.out.size))
  have HC1 := hid (HC1.out.below hu)
  have HC2 := hid (HC2.out.below hu)
  clear hu
  have hz := HZ.out.2.2.2.1
  go_wp2_with fail
  refine (HI.out.2.2.2.1 _ HB.out).mono ?_
  rintro e v3 ⟨hu, a3, c3, rfl⟩
  have hbA := HB.out.trans (hu.mono HB.out.size)
  have HC1 := hid ((HC1.out.below hu).alloc (.cells [.int .i64 3, .bool false, .bool bn, .string bd, .int .i64 bx, .int .u64 0, .int .i64 0, .string ⟨#[]⟩, .slice a3 0 c3].toArray 27))
  have HC2 := hid ((HC2.out.below hu).alloc (.cells [.int .i64 3, .bool false, .bool bn, .string bd, .int .i64 bx, .int .u64 0, .int .i64 0, .string ⟨#[]⟩, .slice a3 0 c3].toArray 27))
  have HC3 := hid (Cls.new v3 27 [.int .i64 3, .bool false, .bool bn, .string bd, .int .i64 bx, .int .u64 0, .int .i64 0, .string ⟨#[]⟩, .slice a3 0 c3])
  have HB := hid (hbA.alloc hbA.size (.cells [.int .i64 3, .bool false, .bool bn, .string bd, .int .i64 bx, .int .u64 0, .int .i64 0, .string ⟨#[]⟩, .slice a3 0 c3].toArray 27))
  clear hz hu hbA
  go_wp2_with fail
  generalize v3.alloc (.cells #[.int .i64 3, .bool false, .bool bn, .string bd, .int .i64 bx, .int .u64 0, .int .i64 0, .string ⟨#[]⟩, .slice a3 0 c3] 27) = V3 at *
  rw [H127.out, HO.out.1]
  refine (HN.out.2.2.2.2.1 _).mono ?_
  rintro e u4 ⟨rfl, hu⟩
  have HB := hid (HB.out.trans (hu.mono HB.out.size))
  have HC1 := hid (HC1.out.below hu)
  have HC2 := hid (HC2.out.below hu)
  have HC3 := hid (HC3.out.below hu)
  clear hu
  have hz := HZ.out.2.2.2.2.1
  go_wp2_with fail
  refine (HI.out.2.2.2.2.1 _ HB.out).mono ?_
  rintro e v4 ⟨hu, a4, c4, rfl⟩
  have hbA := HB.out.trans (hu.mono HB.out.size)
  have HC1 := hid ((HC1.out.below hu).alloc (.cells [.int .i64 3, .bool false, .bool true, .string cd, .int .i64 cx, .int .u64 0, .int .i64 0, .string ⟨#[]⟩, .slice a4 0 c4].toArray 27))
  have HC2 := hid ((HC2.out.below hu).alloc (.cells [.int .i64 3, .bool false, .bool true, .string cd, .int .i64 cx, .int .u64 0, .int .i64 0, .string ⟨#[]⟩, .slice a4 0 c4].toArray 27))
  have HC3 := hid ((HC3.out.below hu).alloc (.cells [.int .i64 3, .bool false, .bool true, .string cd, .int .i64 cx, .int .u64 0, .int .i64 0, .string ⟨#[]⟩, .slice a4 0 c4].toArray 27))
  have HC4 := hid (Cls.new v4 27 [.int .i64 3, .bool false, .bool true, .string cd, .int .i64 cx, .int .u64 0, .int .i64 0, .string ⟨#[]⟩, .slice a4 0 c4])
  have HB := hid (hbA.alloc hbA.size (.cells [.int .i64 3, .bool false, .bool true, .string cd, .int .i64 cx, .int .u64 0, .int .i64 0, .string ⟨#[]⟩, .slice a4 0 c4].toArray 27))
  clear hz hu hbA
  go_wp2_with fail
  generalize v4.alloc (.cells #[.int .i64 3, .bool false, .bool true, .string cd, .int .i64 cx, .int .u64 0, .int .i64 0, .string ⟨#[]⟩, .slice a4 0 c4] 27) = V4 at *
  rw [H127.out, HO.out.2.2]
  refine (HN.out.2.2.2.2.2.1 _).mono ?_
  rintro e u5 ⟨rfl, hu⟩
  have HB := hid (HB.out.trans (hu.mono HB.out.size))
  have HC1 := hid (HC1.out.below hu)
  have HC2 := hid (HC2.out.below hu)
  have HC3 := hid (HC3.out.below hu)
  have HC4 := hid (HC4.out.below hu)
  clear hu
  have hz := HZ.out.2.2.2.2.2.1
  go_wp2_with fail
  refine (HI.out.2.2.2.2.2.1 _ HB.out).mono ?_
  rintro e v5 ⟨hu, a5, c5, rfl⟩
  have hbA := HB.out.trans (hu.mono HB.out.size)
  have HC1 := hid ((HC1.out.below hu).alloc (.cells [.int .i64 3, .bool false, .bool true, .string cd, .int .i64 cx, .int .u64 0, .int .i64 0, .string ⟨#[]⟩, .slice a5 0 c5].toArray 27))
  have HC2 := hid ((HC2.out.below hu).alloc (.cells [.int .i64 3, .bool false, .bool true, .string cd, .int .i64 cx, .int .u64 0, .int .i64 0, .string ⟨#[]⟩, .slice a5 0 c5].toArray 27))
  have HC3 := hid ((HC3.out.below hu).alloc (.cells [.int .i64 3, .bool false, .bool true, .string cd, .int .i64 cx, .int .u64 0, .int .i64 0, .string ⟨#[]⟩, .slice a5 0 c5].toArray 27))
  have HC4 := hid ((HC4.out.below hu).alloc (.cells [.int .i64 3, .bool false, .bool true, .string cd, .int .i64 cx, .int .u64 0, .int .i64 0, .string ⟨#[]⟩, .slice a5 0 c5].toArray 27))
  have HC5 := hid (Cls.new v5 27 [.int .i64 3, .bool false, .bool true, .string cd, .int .i64 cx, .int .u64 0, .int .i64 0, .string ⟨#[]⟩, .slice a5 0 c5])
  have HB := hid (hbA.alloc hbA.size (.cells [.int .i64 3, .bool false, .bool true, .string cd, .int .i64 cx, .int .u64 0, .int .i64 0, .string ⟨#[]⟩, .slice a5 0 c5].toArray 27))
  clear hz hu hbA
  go_wp2_with fail
  generalize v5.alloc (.cells #[.int .i64 3, .bool false, .bool true, .string cd, .int .i64 cx, .int .u64 0, .int .i64 0, .string ⟨#[]⟩, .slice a5 0 c5] 27) = V5 at *
  rw [H127.out, HO.out.2.1]
  refine (HN.out.2.2.2.2.2.2 _).mono ?_
  rintro e u6 ⟨rfl, hu⟩
  have HB := hid (HB.out.trans (hu.mono HB.out.size))
  have HC1 := hid (HC1.out.below hu)
  have HC2 := hid (HC2.out.below hu)
  have HC3 := hid (HC3.out.below hu)
  have HC4 := hid (HC4.out.below hu)
  have HC5 := hid (HC5.out.below hu)
  clear hu
  have hz := HZ.out.2.2.2.2.2.2
  go_wp2_with fail
  refine (HI.out.2.2.2.2.2.2 _ HB.out).mono ?_
  rintro e v6 ⟨hu, a6, c6, rfl⟩
  have hbA := HB.out.trans (hu.mono HB.out.size)
  have HC1 := hid ((HC1.out.below hu).alloc (.cells [.int .i64 3, .bool false, .bool true, .string cd, .int .i64 cx, .int .u64 0, .int .i64 0, .string ⟨#[]⟩, .slice a6 0 c6].toArray 27))
  have HC2 := hid ((HC2.out.below hu).alloc (.cells [.int .i64 3, .bool false, .bool true, .string cd, .int .i64 cx, .int .u64 0, .int .i64 0, .string ⟨#[]⟩, .slice a6 0 c6].toArray 27))
  have HC3 := hid ((HC3.out.below hu).alloc (.cells [.int .i64 3, .bool false, .bool true, .string cd, .int .i64 cx, .int .u64 0, .int .i64 0, .string ⟨#[]⟩, .slice a6 0 c6].toArray 27))
  have HC4 := hid ((HC4.out.below hu).alloc (.cells [.int .i64 3, .bool false, .bool true, .string cd, .int .i64 cx, .int .u64 0, .int .i64 0, .string ⟨#[]⟩, .slice a6 0 c6].toArray 27))
  have HC5 := hid ((HC5.out.below hu).alloc (.cells [.int .i64 3, .bool false, .bool true, .string cd, .int .i64 cx, .int .u64 0, .int .i64 0, .string ⟨#[]⟩, .slice a6 0 c6].toArray 27))
  have HC6 := hid (Cls.new v6 27 [.int .i64 3, .bool false, .bool true, .string cd, .int .i64 cx, .int .u64 0, .int .i64 0, .string ⟨#[]⟩, .slice a6 0 c6])
  have HB := hid (hbA.alloc hbA.size (.cells [.int .i64 3, .bool false, .bool true, .string cd, .int .i64 cx, .int .u64 0, .int .i64 0, .string ⟨#[]⟩, .slice a6 0 c6].toArray 27))
  clear hz hu hbA
  go_wp2_with fail
  generalize v6.alloc (.cells #[.int .i64 3, .bool false, .bool true, .string cd, .int .i64 cx, .int .u64 0, .int .i64 0, .string ⟨#[]⟩, .slice a6 0 c6] 27) = V6 at *
  have hBB := HB.out
  have y10 := HC1.out.cell 0 rfl
  have y11 := HC1.out.cell 1 rfl
  have y12 := HC1.out.cell 2 rfl
  have y13 := HC1.out.cell 3 rfl
  have y14 := HC1.out.cell 4 rfl
  have y15 := HC1.out.cell 5 rfl
  have y16 := HC1.out.cell 6 rfl
  have y17 := HC1.out.cell 7 rfl
  have y18 := HC1.out.cell 8 rfl
  have y20 := HC2.out.cell 0 rfl
  have y21 := HC2.out.cell 1 rfl
  have y22 := HC2.out.cell 2 rfl
  have y23 := HC2.out.cell 3 rfl
  have y24 := HC2.out.cell 4 rfl
  have y25 := HC2.out.cell 5 rfl
  have y26 := HC2.out.cell 6 rfl
  have y27 := HC2.out.cell 7 rfl
  have y28 := HC2.out.cell 8 rfl
  have y30 := HC3.out.cell 0 rfl
  have y31 := HC3.out.cell 1 rfl
  have y32 := HC3.out.cell 2 rfl
  have y33 := HC3.out.cell 3 rfl
  have y34 := HC3.out.cell 4 rfl
  have y35 := HC3.out.cell 5 rfl
  have y36 := HC3.out.cell 6 rfl
  have y37 := HC3.out.cell 7 rfl
  have y38 := HC3.out.cell 8 rfl
  have y40 := HC4.out.cell 0 rfl
  have y41 := HC4.out.cell 1 rfl
  have y42 := HC4.out.cell 2 rfl
  have y43 := HC4.out.cell 3 rfl
  have y44 := HC4.out.cell 4 rfl
  have y45 := HC4.out.cell 5 rfl
  have y46 := HC4.out.cell 6 rfl
  have y47 := HC4.out.cell 7 rfl
  have y48 := HC4.out.cell 8 rfl
  have y50 := HC5.out.cell 0 rfl
  have y51 := HC5.out.cell 1 rfl
  have y52 := HC5.out.cell 2 rfl
  have y53 := HC5.out.cell 3 rfl
  have y54 := HC5.out.cell 4 rfl
  have y55 := HC5.out.cell 5 rfl
  have y56 := HC5.out.cell 6 rfl
  have y57 := HC5.out.cell 7 rfl
  have y58 := HC5.out.cell 8 rfl
  have y60 := HC6.out.cell 0 rfl
  have y61 := HC6.out.cell 1 rfl
  have y62 := HC6.out.cell 2 rfl
  have y63 := HC6.out.cell 3 rfl
  have y64 := HC6.out.cell 4 rfl
  have y65 := HC6.out.cell 5 rfl
  have y66 := HC6.out.cell 6 rfl
  have y67 := HC6.out.cell 7 rfl
  have y68 := HC6.out.cell 8 rfl
  have hq := eqD_same14 bn bd bx
  go_region_held3 (fun w' => w'.cell? ⟨v1.heap.size, 0, none⟩ = some (.int .i64 3) ∧ w'.cell? ⟨v1.heap.size, 1, none⟩ = some (.bool false) ∧ w'.cell? ⟨v1.heap.size, 2, none⟩ = some (.bool bn) ∧ w'.cell? ⟨v1.heap.size, 3, none⟩ = some (.string bd) ∧ w'.cell? ⟨v1.heap.size, 4, none⟩ = some (.int .i64 bx) ∧ w'.cell? ⟨v1.heap.size, 5, none⟩ = some (.int .u64 0) ∧ w'.cell? ⟨v1.heap.size, 6, none⟩ = some (.int .i64 0) ∧ w'.cell? ⟨v1.heap.size, 7, none⟩ = some (.string ⟨#[]⟩) ∧ w'.cell? ⟨v1.heap.size, 8, none⟩ = some (.slice a1 0 c1) ∧ w'.cell? ⟨v2.heap.size, 0, none⟩ = some (.int .i64 3) ∧ w'.cell? ⟨v2.heap.size, 1, none⟩ = some (.bool false) ∧ w'.cell? ⟨v2.heap.size, 2, none⟩ = some (.bool bn) ∧ w'.cell? ⟨v2.heap.size, 3, none⟩ = some (.string bd) ∧ w'.cell? ⟨v2.heap.size, 4, none⟩ = some (.int .i64 bx) ∧ w'.cell? ⟨v2.heap.size, 5, none⟩ = some (.int .u64 0) ∧ w'.cell? ⟨v2.heap.size, 6, none⟩ = some (.int .i64 0) ∧ w'.cell? ⟨v2.heap.size, 7, none⟩ = some (.string ⟨#[]⟩) ∧ w'.cell? ⟨v2.heap.size, 8, none⟩ = some (.slice a2 0 c2) ∧ w'.cell? ⟨v3.heap.size, 0, none⟩ = some (.int .i64 3) ∧ w'.cell? ⟨v3.heap.size, 1, none⟩ = some (.bool false) ∧ w'.cell? ⟨v3.heap.size, 2, none⟩ = some (.bool bn) ∧ w'.cell? ⟨v3.heap.size, 3, none⟩ = some (.string bd) ∧ w'.cell? ⟨v3.heap.size, 4, none⟩ = some (.int .i64 bx) ∧ w'.cell? ⟨v3.heap.size, 5, none⟩ = some (.int .u64 0) ∧ w'.cell? ⟨v3.heap.size, 6, none⟩ = some (.int .i64 0) ∧ w'.cell? ⟨v3.heap.size, 7, none⟩ = some (.string ⟨#[]⟩) ∧ w'.cell? ⟨v3.heap.size, 8, none⟩ = some (.slice a3 0 c3) ∧ w'.cell? ⟨v4.heap.size, 0, none⟩ = some (.int .i64 3) ∧ w'.cell? ⟨v4.heap.size, 1, none⟩ = some (.bool false) ∧ w'.cell? ⟨v4.heap.size, 2, none⟩ = some (.bool true) ∧ w'.cell? ⟨v4.heap.size, 3, none⟩ = some (.string cd) ∧ w'.cell? ⟨v4.heap.size, 4, none⟩ = some (.int .i64 cx) ∧ w'.cell? ⟨v4.heap.size, 5, none⟩ = some (.int .u64 0) ∧ w'.cell? ⟨v4.heap.size, 6, none⟩ = some (.int .i64 0) ∧ w'.cell? ⟨v4.heap.size, 7, none⟩ = some (.string ⟨#[]⟩) ∧ w'.cell? ⟨v4.heap.size, 8, none⟩ = some (.slice a4 0 c4) ∧ w'.cell? ⟨v5.heap.size, 0, none⟩ = some (.int .i64 3) ∧ w'.cell? ⟨v5.heap.size, 1, none⟩ = some (.bool false) ∧ w'.cell? ⟨v5.heap.size, 2, none⟩ = some (.bool true) ∧ w'.cell? ⟨v5.heap.size, 3, none⟩ = some (.string cd) ∧ w'.cell? ⟨v5.heap.size, 4, none⟩ = some (.int .i64 cx) ∧ w'.cell? ⟨v5.heap.size, 5, none⟩ = some (.int .u64 0) ∧ w'.cell? ⟨v5.heap.size, 6, none⟩ = some (.int .i64 0) ∧ w'.cell? ⟨v5.heap.size, 7, none⟩ = some (.string ⟨#[]⟩) ∧ w'.cell? ⟨v5.heap.size, 8, none⟩ = some (.slice a5 0 c5) ∧ w'.cell? ⟨v6.heap.size, 0, none⟩ = some (.int .i64 3) ∧ w'.cell? ⟨v6.heap.size, 1, none⟩ = some (.bool false) ∧ w'.cell? ⟨v6.heap.size, 2, none⟩ = some (.bool true) ∧ w'.cell? ⟨v6.heap.size, 3, none⟩ = some (.string cd) ∧ w'.cell? ⟨v6.heap.size, 4, none⟩ = some (.int .i64 cx) ∧ w'.cell? ⟨v6.heap.size, 5, none⟩ = some (.int .u64 0) ∧ w'.cell? ⟨v6.heap.size, 6, none⟩ = some (.int .i64 0) ∧ w'.cell? ⟨v6.heap.size, 7, none⟩ = some (.string ⟨#[]⟩) ∧ w'.cell? ⟨v6.heap.size, 8, none⟩ = some (.slice a6 0 c6) ∧ Below w.heap.size w w')
    (first
      | (refine ⟨?_, ?_, ?_, ?_, ?_, ?_, ?_, ?_, ?_, ?_, ?_, ?_, ?_, ?_, ?_, ?_, ?_, ?_, ?_, ?_, ?_, ?_, ?_, ?_, ?_, ?_, ?_, ?_, ?_, ?_, ?_, ?_, ?_, ?_, ?_, ?_, ?_, ?_, ?_, ?_, ?_, ?_, ?_, ?_, ?_, ?_, ?_, ?_, ?_, ?_, ?_, ?_, ?_, ?_, ?_⟩ <;> first | assumption | exact cell_below (by assumption) hbX | exact below_nx (by assumption) hbX | exact Below.drew (by assumption) | exact below_nx (Below.drew (by assumption)) hbX)
      | go_keep
      | (go_split_ands
         refine ⟨?_, ?_, ?_, ?_, ?_, ?_, ?_, ?_, ?_, ?_, ?_, ?_, ?_, ?_, ?_, ?_, ?_, ?_, ?_, ?_, ?_, ?_, ?_, ?_, ?_, ?_, ?_, ?_, ?_, ?_, ?_, ?_, ?_, ?_, ?_, ?_, ?_, ?_, ?_, ?_, ?_, ?_, ?_, ?_, ?_, ?_, ?_, ?_, ?_, ?_, ?_, ?_, ?_, ?_, ?_⟩ <;> first | assumption | exact cell_below (by assumption) hbX | exact below_nx (by assumption) hbX | exact Below.drew (by assumption) | exact below_nx (Below.drew (by assumption)) hbX))
    (first
      | (go_at_call 21; with_reducible refine (HS.out.2.1 _).mono ?_; rintro e wr ⟨rfl, hbX⟩)
      | (go_at_call 18; with_reducible refine (HS.out.2.2.1 _ _ _ _ _).mono ?_; rintro e wr ⟨rfl, hbX⟩)
      | (go_at_call 18; with_reducible refine (HS.out.2.2.2 _ _ _ _ _).mono ?_; rintro e wr ⟨rfl, hbX⟩))
  all_goals (
    go_split_ands
    have hBe : Below w.heap.size w wr := by assumption
    clear y10 y11 y12 y13 y14 y15 y16 y17 y18 y20 y21 y22 y23 y24 y25 y26 y27 y28 y30 y31 y32 y33 y34 y35 y36 y37 y38 y40 y41 y42 y43 y44 y45 y46 y47 y48 y50 y51 y52 y53 y54 y55 y56 y57 y58 y60 y61 y62 y63 y64 y65 y66 y67 y68
    go_wp2
    go_ret
    exact ⟨rfl, hBe⟩)
end Go.Proofs.YtpjlepkdiaohiaaGreatDoor

