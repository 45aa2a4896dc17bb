/- MU: UtP RU RUR FrA. -/
import Derived.Lib.ValidLaws
import Derived.Lib.TrimUEq
import Derived.Test.YtpjlepkdiaohiaaGreatDoorNMA
import Derived.Test.YtpjlepkdiaohiaaGreatDoorNMC
import Derived.IntWalk
import Derived.Test.YtpjlepkdiaohiaaGreatDoorNMD
/- Plain: the reference's first character of bytes is the decoder's. -/
namespace Go.Proofs.YtpjlepkdiaohiaaGreatDoor
open Go Go.Lib

def fstN (b : Nat) : Nat := if b < 128 then 1 else if b < 194 ∨ 244 < b then 0 else if b < 224 then 2 else if b < 240 then 3 else 4
def fst0 (b : Nat) : Nat := if b < 128 then b else if b < 224 then b % 32 else if b < 240 then b % 16 else b % 8
def fstL (b : Nat) : Nat := if b < 128 then 0 else if b < 224 then 128 else if b < 240 then 2048 else 65536
/-- the number so far. -/
def fstA (b b1 b2 b3 : Nat) : Nat → Nat | 0 => fst0 b | 1 => fst0 b | 2 => 64 * fst0 b + b1 % 64 | 3 => 64 * (64 * fst0 b + b1 % 64) + b2 % 64 | _ => 64 * (64 * (64 * fst0 b + b1 % 64) + b2 % 64) + b3 % 64
/-- do the bytes behind the first one go on with it? -/
def fstB (b1 b2 b3 : Nat) : Nat → Bool | 0 => true | 1 => true | 2 => decide (b1 / 64 = 2) | 3 => decide (b1 / 64 = 2) && decide (b2 / 64 = 2) | _ => decide (b1 / 64 = 2) && (decide (b2 / 64 = 2) && decide (b3 / 64 = 2))
def fstR (n b b1 b2 b3 : Nat) : Nat × Nat := if decodeN n b b1 b2 b3 = (65533, 1) then (0, 0) else decodeN n b b1 b2 b3
theorem fst_eq (n b b1 b2 b3 : Nat) (hn : 1 ≤ n) (hb : b < 256) (_h1 : b1 < 256) (_h2 : b2 < 256) (_h3 : b3 < 256) :
    (fstN b = 0 → fstR n b b1 b2 b3 = (0, 0)) ∧
    (fstN b ≠ 0 → n < fstN b → fstR n b b1 b2 b3 = (0, 0)) ∧
    (fstN b ≠ 0 → fstN b ≤ n → fstB b1 b2 b3 (fstN b) = false → fstR n b b1 b2 b3 = (0, 0)) ∧
    (fstN b ≠ 0 → fstN b ≤ n → fstB b1 b2 b3 (fstN b) = true → (fstA b b1 b2 b3 (fstN b) < fstL b ∨ 1114111 < fstA b b1 b2 b3 (fstN b) ∨ (55296 ≤ fstA b b1 b2 b3 (fstN b) ∧ fstA b b1 b2 b3 (fstN b) ≤ 57343)) → fstR n b b1 b2 b3 = (0, 0)) ∧
    (fstN b ≠ 0 → fstN b ≤ n → fstB b1 b2 b3 (fstN b) = true → ¬ (fstA b b1 b2 b3 (fstN b) < fstL b ∨ 1114111 < fstA b b1 b2 b3 (fstN b) ∨ (55296 ≤ fstA b b1 b2 b3 (fstN b) ∧ fstA b b1 b2 b3 (fstN b) ≤ 57343)) → fstR n b b1 b2 b3 = (fstA b b1 b2 b3 (fstN b), fstN b)) := by
  have hbad : ∀ {d : Nat × Nat}, d = (65533, 1) → (if d = (65533, 1) then ((0, 0) : Nat × Nat) else d) = (0, 0) := fun h => by rw [if_pos h]
  have hgood : ∀ {d e : Nat × Nat}, d = e → e.2 ≠ 1 ∨ e.1 < 65533 → (if d = (65533, 1) then ((0, 0) : Nat × Nat) else d) = e := fun h h2 => by
    rw [if_neg (by rw [h]; rintro rfl; rcases h2 with h2 | h2 <;> simp at h2)]; exact h
  unfold fstR
  rcases (show b < 128 ∨ (128 ≤ b ∧ (b < 194 ∨ 244 < b)) ∨ (194 ≤ b ∧ b < 224) ∨ (224 ≤ b ∧ b < 240) ∨ (240 ≤ b ∧ b ≤ 244) by omega) with hc | hc | hc | hc | hc
  · have e1 : fstN b = 1 := by unfold fstN; rw [if_pos hc]
    have e2 : fst0 b = b := by unfold fst0; rw [if_pos hc]
    have e3 : decodeN n b b1 b2 b3 = (b, 1) := by unfold decodeN; rw [if_pos hc]
    have e4 : fstL b = 0 := by unfold fstL; rw [if_pos hc]
    rw [e1, e3, e4]
    have e5 : fstA b b1 b2 b3 1 = b := e2
    rw [e5]
    refine ⟨?_, ?_, ?_, ?_, ?_⟩
    · intro h; cases h
    · intro _ h; omega
    · intro _ _ h; exact Bool.noConfusion (show true = false from h)
    · intro _ _ _ h; omega
    · intro _ _ _ _; exact hgood (d := (b, 1)) (e := (b, 1)) rfl (.inr (show b < 65533 by omega))
  · have e1 : fstN b = 0 := by unfold fstN; rw [if_neg (by omega), if_pos hc.2]
    rw [e1]
    refine ⟨fun _ => hbad (decodeN_bad _ _ _ _ _ (by omega)), fun h => absurd rfl h, fun h => absurd rfl h, fun h => absurd rfl h, fun h => absurd rfl h⟩
  · have e1 : fstN b = 2 := by unfold fstN; rw [if_neg (by omega), if_neg (by omega), if_pos hc.2]
    have e2 : fst0 b = b % 32 := by unfold fst0; rw [if_neg (by omega), if_pos hc.2]
    have e4 : fstL b = 128 := by unfold fstL; rw [if_neg (by omega), if_pos hc.2]
    rw [e1, e4]
    simp only [fstB, fstA, e2]
    refine ⟨fun h => by omega, fun _ h => hbad ?_, fun _ _ h => hbad ?_, fun _ h3 h h4 => hbad ?_, fun _ h3 h h4 => hgood ?_ (.inl (show (2 : Nat) ≠ 1 by decide))⟩
    all_goals (try rw [decide_eq_false_iff_not] at h)
    all_goals (try rw [decide_eq_true_eq] at h)
    all_goals (unfold decodeN; rw [if_neg (by omega)])
    · rw [if_neg (by omega), if_neg (by omega), if_neg (by omega)]
    · rw [if_neg (by omega), if_neg (by omega), if_neg (by omega)]
    · rw [if_pos (by omega), if_neg (by omega)]
    · rw [if_pos (by omega), if_pos (by omega)]
      simp only [Prod.mk.injEq, and_true]; omega
  · have e1 : fstN b = 3 := by unfold fstN; rw [if_neg (by omega), if_neg (by omega), if_neg (by omega), if_pos hc.2]
    have e2 : fst0 b = b % 16 := by unfold fst0; rw [if_neg (by omega), if_neg (by omega), if_pos hc.2]
    have e4 : fstL b = 2048 := by unfold fstL; rw [if_neg (by omega), if_neg (by omega), if_pos hc.2]
    rw [e1, e4]
    simp only [fstB, fstA, e2]
    refine ⟨fun h => by omega, fun _ h => hbad ?_, fun _ _ h => hbad ?_, fun _ h3 h h4 => hbad ?_, fun _ h3 h h4 => hgood ?_ (.inl (show (3 : Nat) ≠ 1 by decide))⟩
    · unfold decodeN; rw [if_neg (by omega), if_neg (by omega), if_neg (by omega), if_neg (by omega)]
    · rw [Bool.and_eq_false_iff, decide_eq_false_iff_not, decide_eq_false_iff_not] at h
      unfold decodeN; rw [if_neg (by omega), if_neg (by omega), if_neg (by omega), if_neg (by omega)]
    · rw [Bool.and_eq_true, decide_eq_true_eq, decide_eq_true_eq] at h
      unfold decodeN; rw [if_neg (by omega), if_neg (by omega), if_pos (by omega), if_neg (by omega)]
    · rw [Bool.and_eq_true, decide_eq_true_eq, decide_eq_true_eq] at h
      unfold decodeN; rw [if_neg (by omega), if_neg (by omega), if_pos (by omega), if_pos (by omega)]
      simp only [Prod.mk.injEq, and_true]; omega
  · have e1 : fstN b = 4 := by unfold fstN; rw [if_neg (by omega), if_neg (by omega), if_neg (by omega), if_neg (by omega)]
    have e2 : fst0 b = b % 8 := by unfold fst0; rw [if_neg (by omega), if_neg (by omega), if_neg (by omega)]
    have e4 : fstL b = 65536 := by unfold fstL; rw [if_neg (by omega), if_neg (by omega), if_neg (by omega)]
    rw [e1, e4]
    simp only [fstB, fstA, e2]
    refine ⟨fun h => by omega, fun _ h => hbad ?_, fun _ _ h => hbad ?_, fun _ h3 h h4 => hbad ?_, fun _ h3 h h4 => hgood ?_ (.inl (show (4 : Nat) ≠ 1 by decide))⟩
    · unfold decodeN; rw [if_neg (by omega), if_neg (by omega), if_neg (by omega), if_neg (by omega)]
    · rw [Bool.and_eq_false_iff, Bool.and_eq_false_iff, decide_eq_false_iff_not, decide_eq_false_iff_not, decide_eq_false_iff_not] at h
      unfold decodeN; rw [if_neg (by omega), if_neg (by omega), if_neg (by omega), if_neg (by omega)]
    · rw [Bool.and_eq_true, Bool.and_eq_true, decide_eq_true_eq, decide_eq_true_eq, decide_eq_true_eq] at h
      unfold decodeN; rw [if_neg (by omega), if_neg (by omega), if_neg (by omega), if_pos (by omega), if_neg (by omega)]
    · rw [Bool.and_eq_true, Bool.and_eq_true, decide_eq_true_eq, decide_eq_true_eq, decide_eq_true_eq] at h
      unfold decodeN; rw [if_neg (by omega), if_neg (by omega), if_neg (by omega), if_pos (by omega), if_pos (by omega)]
      simp only [Prod.mk.injEq, and_true]; omega
end Go.Proofs.YtpjlepkdiaohiaaGreatDoor

/- The reference's First, Right of texts: walked. -/
namespace Go.Proofs.YtpjlepkdiaohiaaGreatDoor
open Go Go.RowKit
attribute [local go_sem] Oper.semAt_some

theorem and31 : ∀ b : Fin 256, bits BinOp.and IntKind.i64 (b.val : Int) 31 = (b.val : Int) % 32 := by decide +kernel
theorem and15 : ∀ b : Fin 256, bits BinOp.and IntKind.i64 ((b.val : Int) % 32) 15 = (b.val : Int) % 16 := by decide +kernel
theorem and7 : ∀ b : Fin 256, bits BinOp.and IntKind.i64 ((b.val : Int) % 16) 7 = (b.val : Int) % 8 := by decide +kernel
theorem and192 : ∀ b : Fin 256, bits BinOp.and IntKind.u8 (b.val : Int) 192 = ((b.val / 64 * 64 : Nat) : Int) := by decide +kernel
theorem and63 : ∀ b : Fin 256, bits BinOp.and IntKind.u8 (b.val : Int) 63 = ((b.val % 64 : Nat) : Int) := by decide +kernel
/-- the number so far; are the bytes so far right? -/
def accA (l : List UInt8) (c0 : Nat) : Nat → Nat | 0 => c0 | 1 => c0 | i + 2 => 64 * accA l c0 (i + 1) + (l.getD (i + 1) 0).toNat % 64
def accB (l : List UInt8) : Nat → Bool | 0 => true | 1 => true | i + 2 => accB l (i + 1) && decide ((l.getD (i + 1) 0).toNat / 64 = 2)
theorem accA_step (l : List UInt8) (c0 i : Nat) (h : 1 ≤ i) : accA l c0 (i + 1) = 64 * accA l c0 i + (l.getD i 0).toNat % 64 := by
  obtain ⟨j, rfl⟩ : ∃ j, i = j + 1 := ⟨i - 1, by omega⟩
  rfl
theorem accB_step (l : List UInt8) (i : Nat) (h : 1 ≤ i) : accB l (i + 1) = (accB l i && decide ((l.getD i 0).toNat / 64 = 2)) := by
  obtain ⟨j, rfl⟩ : ∃ j, i = j + 1 := ⟨i - 1, by omega⟩
  rfl
theorem accA_lt (l : List UInt8) (c0 : Nat) (h : c0 < 32) (i : Nat) (hi : i ≤ 4) : accA l c0 i < 8388608 := by
  have h1 : accA l c0 1 = c0 := rfl
  have h2 : accA l c0 2 = 64 * accA l c0 1 + (l.getD 1 0).toNat % 64 := rfl
  have h3 : accA l c0 3 = 64 * accA l c0 2 + (l.getD 2 0).toNat % 64 := rfl
  have h4 : accA l c0 4 = 64 * accA l c0 3 + (l.getD 3 0).toNat % 64 := rfl
  have g1 := Nat.mod_lt (l.getD 1 0).toNat (show 64 > 0 by decide)
  have g2 := Nat.mod_lt (l.getD 2 0).toNat (show 64 > 0 by decide)
  have g3 := Nat.mod_lt (l.getD 3 0).toNat (show 64 > 0 by decide)
  rcases (show i = 0 ∨ i = 1 ∨ i = 2 ∨ i = 3 ∨ i = 4 by omega) with rfl | rfl | rfl | rfl | rfl
  · show c0 < _; omega
  · omega
  · omega
  · omega
  · omega
theorem accB_stop (l : List UInt8) : ∀ (n i : Nat), 1 ≤ i → i < n → (l.getD i 0).toNat / 64 ≠ 2 → accB l n = false
  | 0, i, _, h, _ => by omega
  | n + 1, i, h1, h, h2 => by
    rw [accB_step l n (by omega)]
    by_cases e : i = n
    · subst e; rw [decide_eq_false h2, Bool.and_false]
    · rw [accB_stop l n i h1 (by omega) h2, Bool.false_and]
/-- the reference's first character. -/
def fsR (l : List UInt8) : Nat × Nat := fstR l.length (l.getD 0 0).toNat (l.getD 1 0).toNat (l.getD 2 0).toNat (l.getD 3 0).toNat
theorem fsR_valid (l : List UInt8) (hne : l ≠ []) : Lib.validD l = if (fsR l).2 = 0 then false else Lib.validD (l.drop (fsR l).2) := by
  rw [Lib.validD_step l hne]
  have e := Lib.decodeL_N l
  have hw := Lib.decodeL_width l
  have hl : 0 < l.length := List.length_pos_iff.2 hne
  unfold fsR fstR
  rw [← e]
  by_cases h : Lib.decodeL l = (65533, 1)
  · rw [if_pos h, h]; rfl
  · rw [if_neg h, if_neg (fun h2 => h (Prod.ext h2.1 h2.2))]
    rw [if_neg (by omega)]
theorem fsR_le (l : List UInt8) (hne : l ≠ []) : (fsR l).2 ≤ l.length := by
  have hl : 0 < l.length := List.length_pos_iff.2 hne
  have hlt : ∀ x : UInt8, x.toNat < 256 := fun x => x.toNat_lt
  obtain ⟨f1, f2, f3, f4, f5⟩ := fst_eq l.length (l.getD 0 0).toNat (l.getD 1 0).toNat (l.getD 2 0).toNat (l.getD 3 0).toNat (by omega) (hlt _) (hlt _) (hlt _) (hlt _)
  unfold fsR
  by_cases e : fstN (l.getD 0 0).toNat = 0
  · rw [f1 e]; exact Nat.zero_le _
  by_cases e2 : l.length < fstN (l.getD 0 0).toNat
  · rw [f2 e e2]; exact Nat.zero_le _
  cases e3 : fstB (l.getD 1 0).toNat (l.getD 2 0).toNat (l.getD 3 0).toNat (fstN (l.getD 0 0).toNat) with
  | false => rw [f3 e (by omega) e3]; exact Nat.zero_le _
  | true =>
    by_cases e4 : (fstA (l.getD 0 0).toNat (l.getD 1 0).toNat (l.getD 2 0).toNat (l.getD 3 0).toNat (fstN (l.getD 0 0).toNat) < fstL (l.getD 0 0).toNat ∨ 1114111 < fstA (l.getD 0 0).toNat (l.getD 1 0).toNat (l.getD 2 0).toNat (l.getD 3 0).toNat (fstN (l.getD 0 0).toNat) ∨ (55296 ≤ fstA (l.getD 0 0).toNat (l.getD 1 0).toNat (l.getD 2 0).toNat (l.getD 3 0).toNat (fstN (l.getD 0 0).toNat) ∧ fstA (l.getD 0 0).toNat (l.getD 1 0).toNat (l.getD 2 0).toNat (l.getD 3 0).toNat (fstN (l.getD 0 0).toNat) ≤ 57343))
    · rw [f4 e (by omega) e3 e4]; exact Nat.zero_le _
    · rw [f5 e (by omega) e3 e4]; show fstN _ ≤ _; omega
theorem fst_tables (l : List UInt8) (b : Nat) : (fstA b (l.getD 1 0).toNat (l.getD 2 0).toNat (l.getD 3 0).toNat 2 = accA l (fst0 b) 2 ∧ fstA b (l.getD 1 0).toNat (l.getD 2 0).toNat (l.getD 3 0).toNat 3 = accA l (fst0 b) 3 ∧ fstA b (l.getD 1 0).toNat (l.getD 2 0).toNat (l.getD 3 0).toNat 4 = accA l (fst0 b) 4) ∧
    fstB (l.getD 1 0).toNat (l.getD 2 0).toNat (l.getD 3 0).toNat 2 = accB l 2 ∧ fstB (l.getD 1 0).toNat (l.getD 2 0).toNat (l.getD 3 0).toNat 3 = accB l 3 ∧ fstB (l.getD 1 0).toNat (l.getD 2 0).toNat (l.getD 3 0).toNat 4 = accB l 4 := by
  refine ⟨⟨rfl, rfl, rfl⟩, ?_, ?_, ?_⟩
  · simp [fstB, accB]
  · simp [fstB, accB]
  · simp [fstB, accB, Bool.and_assoc]
theorem byte_at (s : ByteArray) {i : Nat} (h : i < s.size) : ((tx s).getD i 0) = s[i] := by
  have : (tx s)[i]? = some s[i] := by
    rw [List.getElem?_eq_getElem (by rw [txs_len]; exact h)]; rfl
  simp [List.getD, this]

set_option maxRecDepth 100000 in
set_option maxHeartbeats 4000000 in
theorem first2 (s : ByteArray) (hs : 0 < s.size) (hs2 : s.size ≤ 140737488355328) (w : World) (b : Nat) (hb : (s[0]'hs).toNat = b) (h1 : 194 ≤ b) (h2 : b < 224) (r : Nat × Nat)
    (hr1 : s.size < 2 → r = (0, 0)) (hr2 : 2 ≤ s.size → accB (tx s) 2 = false → r = (0, 0))
    (hr3 : 2 ≤ s.size → accB (tx s) 2 = true → (accA (tx s) (b % 32) 2 < 128 ∨ 1114111 < accA (tx s) (b % 32) 2 ∨ (55296 ≤ accA (tx s) (b % 32) 2 ∧ accA (tx s) (b % 32) 2 ≤ 57343)) → r = (0, 0))
    (hr4 : 2 ≤ s.size → accB (tx s) 2 = true → ¬ (accA (tx s) (b % 32) 2 < 128 ∨ 1114111 < accA (tx s) (b % 32) 2 ∨ (55296 ≤ accA (tx s) (b % 32) 2 ∧ accA (tx s) (b % 32) 2 ≤ 57343)) → r = (accA (tx s) (b % 32) 2, 2)) :
    Calls Tryz.prog 174 #[.string s] w fun e w' => e = .returned (.tuple #[.int .i64 (r.1 : Nat), .int .i64 (r.2 : Nat)]) ∧ w = w' := by
  have hbB : b < 256 := by omega
  have k1 : (128 : Int) ≤ (b : Nat) := by omega
  have k2 : (194 : Int) ≤ (b : Nat) := by omega
  have k3 : (b : Int) ≤ 244 := by omega
  have k4 : (b : Int) < 224 := by omega
  have k5 : (b : Int) < 240 := by omega
  have m1 := and31 ⟨b, hbB⟩
  have HR := hid (And.intro hr1 (And.intro hr2 (And.intro hr3 hr4)))
  clear hr1 hr2 hr3 hr4
  by_cases hlen : s.size < 2
  · have hl : (s.size : Int) < 2 := by omega
    obtain rfl := HR.out.1 hlen
    clear hlen HR
    go_enter Tryz.func174, Tryz.ntmps174
    go_wp2
    go_ret2
    exact ⟨rfl, rfl⟩
  have hl : (2 : Int) ≤ s.size := by omega
  obtain ⟨C, hC⟩ : ∃ C, b % 32 = C := ⟨_, rfl⟩
  have hCl : C < 32 := by omega
  rw [hC] at HR
  have hCi : (b : Int) % 32 = (C : Nat) := by omega
  have HH := hid hlen
  clear hlen hC
  go_enter Tryz.func174, Tryz.ntmps174
  go_wp2_with fail
  clear m1
  go_loop [5, 7] (fun v5 v7 => ∃ i : Nat, v7 = .int .i64 i ∧ v5 = .int .i64 (accA (tx s) C i : Nat) ∧ 1 ≤ i ∧ i ≤ 2 ∧ accB (tx s) i = true) (fun _ v7 => 2 - (intOf v7).toNat)
  case atStart => exact ⟨1, rfl, rfl, Nat.le_refl _, by decide, rfl⟩
  case round =>
    obtain ⟨i, rfl, rfl, hi1, hi2, hB⟩ := hrel
    have hAl := accA_lt (tx s) C hCl i (by omega)
    by_cases hin : i < 2
    · have his : i < s.size := by have := HH.out; omega
      have hat := byte_at s his
      obtain ⟨g, hg⟩ : ∃ g, s[i] = g := ⟨_, rfl⟩
      rw [hg] at hat
      have hgl : g.toNat < 256 := g.toNat_lt
      have q1 := and192 ⟨g.toNat, hgl⟩
      have q2 := and63 ⟨g.toNat, hgl⟩
      have hstA := accA_step (tx s) C i hi1
      have hstB := accB_step (tx s) i hi1
      rw [hat] at hstA hstB
      rw [hB, Bool.true_and] at hstB
      have hin2 : (i : Int) < 2 := by omega
      by_cases hg2 : g.toNat / 64 = 2
      · rw [hg2] at q1
        rw [decide_eq_true hg2] at hstB
        obtain ⟨A, hA⟩ : ∃ A, accA (tx s) C i = A := ⟨_, rfl⟩
        rw [hA] at hAl hstA
        obtain ⟨G, hG⟩ : ∃ G, g.toNat % 64 = G := ⟨_, rfl⟩
        rw [hG] at hstA
        simp only [hG] at q2
        have hGl : G < 64 := by omega
        have HS := hid (And.intro hstA hstB)
        rw [hA]
        clear hstA hstB hat hB hg2 hG hA
        go_wp2
        go_round
        case rel => exact ⟨i + 1, by simp, by rw [HS.out.1]; simp, by omega, by omega, HS.out.2⟩
        case measure => simp [intOf]; omega
      · have hstop := accB_stop (tx s) 2 i hi1 hin (by rw [hat]; exact hg2)
        obtain rfl := HR.out.2.1 (by have := HH.out; omega) hstop
        have hz : ((((g.toNat / 64 * 64 : Nat) : Int)) == 128) = false := by rw [beq_eq_false_iff_ne]; omega
        have hz2 : ((((g.toNat / 64 * 64 : Nat) : Int)) != 128) = true := by rw [bne, hz]; rfl
        obtain ⟨G, hG⟩ : ∃ G, g.toNat / 64 * 64 = G := ⟨_, rfl⟩
        simp only [hG] at q1 hz hz2
        clear hstA hstB hat hB hg2 hstop HR hG q2
        go_wp2
        go_ret2
        exact ⟨rfl, rfl⟩
    · obtain rfl : i = 2 := by omega
      obtain ⟨A, hA⟩ : ∃ A, accA (tx s) C 2 = A := ⟨_, rfl⟩
      have hR3 := HR.out.2.2.1 (by have := HH.out; omega) hB
      have hR4 := HR.out.2.2.2 (by have := HH.out; omega) hB
      rw [hA] at hR3 hR4 hAl ⊢
      clear hA HR hB hin
      by_cases hbad : A < 128 ∨ 1114111 < A ∨ (55296 ≤ A ∧ A ≤ 57343)
      · obtain rfl := hR3 hbad
        clear hR3 hR4
        rcases (show (A : Int) < 128 ∨ ((128 : Int) ≤ A ∧ (1114111 : Int) < A) ∨ ((128 : Int) ≤ A ∧ (A : Int) ≤ 1114111 ∧ (55296 : Int) ≤ A ∧ (A : Int) ≤ 57343) by omega) with z | ⟨z1, z2⟩ | ⟨z1, z2, z3, z4⟩ <;> clear hbad
        · go_wp2
          go_ret2
          exact ⟨rfl, rfl⟩
        · go_wp2
          go_ret2
          exact ⟨rfl, rfl⟩
        · go_wp2
          go_ret2
          exact ⟨rfl, rfl⟩
      · obtain rfl := hR4 hbad
        clear hR3 hR4
        have d1 : decide ((A : Int) < 128) = false := decide_eq_false (by omega)
        have d2 : decide ((1114111 : Int) < (A : Nat)) = false := decide_eq_false (by omega)
        rcases (show (decide ((55296 : Int) ≤ (A : Nat)) = false) ∨ ((decide ((55296 : Int) ≤ (A : Nat)) = true) ∧ (decide ((A : Int) ≤ 57343) = false)) by
          by_cases h : (55296 : Int) ≤ (A : Nat)
          · exact .inr ⟨decide_eq_true h, decide_eq_false (by omega)⟩
          · exact .inl (decide_eq_false h)) with d3 | ⟨d3, d4⟩ <;> clear hbad
        · go_wp2
          go_ret2
          exact ⟨rfl, rfl⟩
        · go_wp2
          go_ret2
          exact ⟨rfl, rfl⟩

set_option maxRecDepth 100000 in
set_option maxHeartbeats 4000000 in
theorem first3 (s : ByteArray) (hs : 0 < s.size) (hs2 : s.size ≤ 140737488355328) (w : World) (b : Nat) (hb : (s[0]'hs).toNat = b) (h1 : 224 ≤ b) (h2 : b < 240) (r : Nat × Nat)
    (hr1 : s.size < 3 → r = (0, 0)) (hr2 : 3 ≤ s.size → accB (tx s) 3 = false → r = (0, 0))
    (hr3 : 3 ≤ s.size → accB (tx s) 3 = true → (accA (tx s) (b % 16) 3 < 2048 ∨ 1114111 < accA (tx s) (b % 16) 3 ∨ (55296 ≤ accA (tx s) (b % 16) 3 ∧ accA (tx s) (b % 16) 3 ≤ 57343)) → r = (0, 0))
    (hr4 : 3 ≤ s.size → accB (tx s) 3 = true → ¬ (accA (tx s) (b % 16) 3 < 2048 ∨ 1114111 < accA (tx s) (b % 16) 3 ∨ (55296 ≤ accA (tx s) (b % 16) 3 ∧ accA (tx s) (b % 16) 3 ≤ 57343)) → r = (accA (tx s) (b % 16) 3, 3)) :
    Calls Tryz.prog 174 #[.string s] w fun e w' => e = .returned (.tuple #[.int .i64 (r.1 : Nat), .int .i64 (r.2 : Nat)]) ∧ w = w' := by
  have hbB : b < 256 := by omega
  have k1 : (128 : Int) ≤ (b : Nat) := by omega
  have k2 : (194 : Int) ≤ (b : Nat) := by omega
  have k3 : (b : Int) ≤ 244 := by omega
  have k4 : (224 : Int) ≤ (b : Nat) := by omega
  have k5 : (b : Int) < 240 := by omega
  have m1 := and31 ⟨b, hbB⟩
  have m2 := and15 ⟨b, hbB⟩
  have HR := hid (And.intro hr1 (And.intro hr2 (And.intro hr3 hr4)))
  clear hr1 hr2 hr3 hr4
  by_cases hlen : s.size < 3
  · have hl : (s.size : Int) < 3 := by omega
    obtain rfl := HR.out.1 hlen
    clear hlen HR
    go_enter Tryz.func174, Tryz.ntmps174
    go_wp2
    go_ret2
    exact ⟨rfl, rfl⟩
  have hl : (3 : Int) ≤ s.size := by omega
  obtain ⟨C, hC⟩ : ∃ C, b % 16 = C := ⟨_, rfl⟩
  have hCl : C < 32 := by omega
  rw [hC] at HR
  have hCi : (b : Int) % 16 = (C : Nat) := by omega
  have HH := hid hlen
  clear hlen hC
  go_enter Tryz.func174, Tryz.ntmps174
  go_wp2_with fail
  clear m1 m2
  go_loop [5, 7] (fun v5 v7 => ∃ i : Nat, v7 = .int .i64 i ∧ v5 = .int .i64 (accA (tx s) C i : Nat) ∧ 1 ≤ i ∧ i ≤ 3 ∧ accB (tx s) i = true) (fun _ v7 => 3 - (intOf v7).toNat)
  case atStart => exact ⟨1, rfl, rfl, Nat.le_refl _, by decide, rfl⟩
  case round =>
    obtain ⟨i, rfl, rfl, hi1, hi2, hB⟩ := hrel
    have hAl := accA_lt (tx s) C hCl i (by omega)
    by_cases hin : i < 3
    · have his : i < s.size := by have := HH.out; omega
      have hat := byte_at s his
      obtain ⟨g, hg⟩ : ∃ g, s[i] = g := ⟨_, rfl⟩
      rw [hg] at hat
      have hgl : g.toNat < 256 := g.toNat_lt
      have q1 := and192 ⟨g.toNat, hgl⟩
      have q2 := and63 ⟨g.toNat, hgl⟩
      have hstA := accA_step (tx s) C i hi1
      have hstB := accB_step (tx s) i hi1
      rw [hat] at hstA hstB
      rw [hB, Bool.true_and] at hstB
      have hin2 : (i : Int) < 3 := by omega
      by_cases hg2 : g.toNat / 64 = 2
      · rw [hg2] at q1
        rw [decide_eq_true hg2] at hstB
        obtain ⟨A, hA⟩ : ∃ A, accA (tx s) C i = A := ⟨_, rfl⟩
        rw [hA] at hAl hstA
        obtain ⟨G, hG⟩ : ∃ G, g.toNat % 64 = G := ⟨_, rfl⟩
        rw [hG] at hstA
        simp only [hG] at q2
        have hGl : G < 64 := by omega
        have HS := hid (And.intro hstA hstB)
        rw [hA]
        clear hstA hstB hat hB hg2 hG hA
        go_wp2
        go_round
        case rel => exact ⟨i + 1, by simp, by rw [HS.out.1]; simp, by omega, by omega, HS.out.2⟩
        case measure => simp [intOf]; omega
      · have hstop := accB_stop (tx s) 3 i hi1 hin (by rw [hat]; exact hg2)
        obtain rfl := HR.out.2.1 (by have := HH.out; omega) hstop
        have hz : ((((g.toNat / 64 * 64 : Nat) : Int)) == 128) = false := by rw [beq_eq_false_iff_ne]; omega
        have hz2 : ((((g.toNat / 64 * 64 : Nat) : Int)) != 128) = true := by rw [bne, hz]; rfl
        obtain ⟨G, hG⟩ : ∃ G, g.toNat / 64 * 64 = G := ⟨_, rfl⟩
        simp only [hG] at q1 hz hz2
        clear hstA hstB hat hB hg2 hstop HR hG q2
        go_wp2
        go_ret2
        exact ⟨rfl, rfl⟩
    · obtain rfl : i = 3 := by omega
      obtain ⟨A, hA⟩ : ∃ A, accA (tx s) C 3 = A := ⟨_, rfl⟩
      have hR3 := HR.out.2.2.1 (by have := HH.out; omega) hB
      have hR4 := HR.out.2.2.2 (by have := HH.out; omega) hB
      rw [hA] at hR3 hR4 hAl ⊢
      clear hA HR hB hin
      by_cases hbad : A < 2048 ∨ 1114111 < A ∨ (55296 ≤ A ∧ A ≤ 57343)
      · obtain rfl := hR3 hbad
        clear hR3 hR4
        rcases (show (A : Int) < 2048 ∨ ((2048 : Int) ≤ A ∧ (1114111 : Int) < A) ∨ ((2048 : Int) ≤ A ∧ (A : Int) ≤ 1114111 ∧ (55296 : Int) ≤ A ∧ (A : Int) ≤ 57343) by omega) with z | ⟨z1, z2⟩ | ⟨z1, z2, z3, z4⟩ <;> clear hbad
        · go_wp2
          go_ret2
          exact ⟨rfl, rfl⟩
        · go_wp2
          go_ret2
          exact ⟨rfl, rfl⟩
        · go_wp2
          go_ret2
          exact ⟨rfl, rfl⟩
      · obtain rfl := hR4 hbad
        clear hR3 hR4
        have d1 : decide ((A : Int) < 2048) = false := decide_eq_false (by omega)
        have d2 : decide ((1114111 : Int) < (A : Nat)) = false := decide_eq_false (by omega)
        rcases (show (decide ((55296 : Int) ≤ (A : Nat)) = false) ∨ ((decide ((55296 : Int) ≤ (A : Nat)) = true) ∧ (decide ((A : Int) ≤ 57343) = false)) by
          by_cases h : (55296 : Int) ≤ (A : Nat)
          · exact .inr ⟨decide_eq_true h, decide_eq_false (by omega)⟩
          · exact .inl (decide_eq_false h)) with d3 | ⟨d3, d4⟩ <;> clear hbad
        · go_wp2
          go_ret2
          exact ⟨rfl, rfl⟩
        · go_wp2
          go_ret2
          exact ⟨rfl, rfl⟩

set_option maxRecDepth 100000 in
set_option maxHeartbeats 4000000 in
theorem first4 (s : ByteArray) (hs : 0 < s.size) (hs2 : s.size ≤ 140737488355328) (w : World) (b : Nat) (hb : (s[0]'hs).toNat = b) (h1 : 240 ≤ b) (h2 : b < 245) (r : Nat × Nat)
    (hr1 : s.size < 4 → r = (0, 0)) (hr2 : 4 ≤ s.size → accB (tx s) 4 = false → r = (0, 0))
    (hr3 : 4 ≤ s.size → accB (tx s) 4 = true → (accA (tx s) (b % 8) 4 < 65536 ∨ 1114111 < accA (tx s) (b % 8) 4 ∨ (55296 ≤ accA (tx s) (b % 8) 4 ∧ accA (tx s) (b % 8) 4 ≤ 57343)) → r = (0, 0))
    (hr4 : 4 ≤ s.size → accB (tx s) 4 = true → ¬ (accA (tx s) (b % 8) 4 < 65536 ∨ 1114111 < accA (tx s) (b % 8) 4 ∨ (55296 ≤ accA (tx s) (b % 8) 4 ∧ accA (tx s) (b % 8) 4 ≤ 57343)) → r = (accA (tx s) (b % 8) 4, 4)) :
    Calls Tryz.prog 174 #[.string s] w fun e w' => e = .returned (.tuple #[.int .i64 (r.1 : Nat), .int .i64 (r.2 : Nat)]) ∧ w = w' := by
  have hbB : b < 256 := by omega
  have k1 : (128 : Int) ≤ (b : Nat) := by omega
  have k2 : (194 : Int) ≤ (b : Nat) := by omega
  have k3 : (b : Int) ≤ 244 := by omega
  have k4 : (224 : Int) ≤ (b : Nat) := by omega
  have k5 : (240 : Int) ≤ (b : Nat) := by omega
  have m1 := and31 ⟨b, hbB⟩
  have m2 := and15 ⟨b, hbB⟩
  have m3 := and7 ⟨b, hbB⟩
  have HR := hid (And.intro hr1 (And.intro hr2 (And.intro hr3 hr4)))
  clear hr1 hr2 hr3 hr4
  by_cases hlen : s.size < 4
  · have hl : (s.size : Int) < 4 := by omega
    obtain rfl := HR.out.1 hlen
    clear hlen HR
    go_enter Tryz.func174, Tryz.ntmps174
    go_wp2
    go_ret2
    exact ⟨rfl, rfl⟩
  have hl : (4 : Int) ≤ s.size := by omega
  obtain ⟨C, hC⟩ : ∃ C, b % 8 = C := ⟨_, rfl⟩
  have hCl : C < 32 := by omega
  rw [hC] at HR
  have hCi : (b : Int) % 8 = (C : Nat) := by omega
  have HH := hid hlen
  clear hlen hC
  go_enter Tryz.func174, Tryz.ntmps174
  go_wp2_with fail
  clear m1 m2 m3
  go_loop [5, 7] (fun v5 v7 => ∃ i : Nat, v7 = .int .i64 i ∧ v5 = .int .i64 (accA (tx s) C i : Nat) ∧ 1 ≤ i ∧ i ≤ 4 ∧ accB (tx s) i = true) (fun _ v7 => 4 - (intOf v7).toNat)
  case atStart => exact ⟨1, rfl, rfl, Nat.le_refl _, by decide, rfl⟩
  case round =>
    obtain ⟨i, rfl, rfl, hi1, hi2, hB⟩ := hrel
    have hAl := accA_lt (tx s) C hCl i (by omega)
    by_cases hin : i < 4
    · have his : i < s.size := by have := HH.out; omega
      have hat := byte_at s his
      obtain ⟨g, hg⟩ : ∃ g, s[i] = g := ⟨_, rfl⟩
      rw [hg] at hat
      have hgl : g.toNat < 256 := g.toNat_lt
      have q1 := and192 ⟨g.toNat, hgl⟩
      have q2 := and63 ⟨g.toNat, hgl⟩
      have hstA := accA_step (tx s) C i hi1
      have hstB := accB_step (tx s) i hi1
      rw [hat] at hstA hstB
      rw [hB, Bool.true_and] at hstB
      have hin2 : (i : Int) < 4 := by omega
      by_cases hg2 : g.toNat / 64 = 2
      · rw [hg2] at q1
        rw [decide_eq_true hg2] at hstB
        obtain ⟨A, hA⟩ : ∃ A, accA (tx s) C i = A := ⟨_, rfl⟩
        rw [hA] at hAl hstA
        obtain ⟨G, hG⟩ : ∃ G, g.toNat % 64 = G := ⟨_, rfl⟩
        rw [hG] at hstA
        simp only [hG] at q2
        have hGl : G < 64 := by omega
        have HS := hid (And.intro hstA hstB)
        rw [hA]
        clear hstA hstB hat hB hg2 hG hA
        go_wp2
        go_round
        case rel => exact ⟨i + 1, by simp, by rw [HS.out.1]; simp, by omega, by omega, HS.out.2⟩
        case measure => simp [intOf]; omega
      · have hstop := accB_stop (tx s) 4 i hi1 hin (by rw [hat]; exact hg2)
        obtain rfl := HR.out.2.1 (by have := HH.out; omega) hstop
        have hz : ((((g.toNat / 64 * 64 : Nat) : Int)) == 128) = false := by rw [beq_eq_false_iff_ne]; omega
        have hz2 : ((((g.toNat / 64 * 64 : Nat) : Int)) != 128) = true := by rw [bne, hz]; rfl
        obtain ⟨G, hG⟩ : ∃ G, g.toNat / 64 * 64 = G := ⟨_, rfl⟩
        simp only [hG] at q1 hz hz2
        clear hstA hstB hat hB hg2 hstop HR hG q2
        go_wp2
        go_ret2
        exact ⟨rfl, rfl⟩
    · obtain rfl : i = 4 := by omega
      obtain ⟨A, hA⟩ : ∃ A, accA (tx s) C 4 = A := ⟨_, rfl⟩
      have hR3 := HR.out.2.2.1 (by have := HH.out; omega) hB
      have hR4 := HR.out.2.2.2 (by have := HH.out; omega) hB
      rw [hA] at hR3 hR4 hAl ⊢
      clear hA HR hB hin
      by_cases hbad : A < 65536 ∨ 1114111 < A ∨ (55296 ≤ A ∧ A ≤ 57343)
      · obtain rfl := hR3 hbad
        clear hR3 hR4
        rcases (show (A : Int) < 65536 ∨ ((65536 : Int) ≤ A ∧ (1114111 : Int) < A) ∨ ((65536 : Int) ≤ A ∧ (A : Int) ≤ 1114111 ∧ (55296 : Int) ≤ A ∧ (A : Int) ≤ 57343) by omega) with z | ⟨z1, z2⟩ | ⟨z1, z2, z3, z4⟩ <;> clear hbad
        · go_wp2
          go_ret2
          exact ⟨rfl, rfl⟩
        · go_wp2
          go_ret2
          exact ⟨rfl, rfl⟩
        · go_wp2
          go_ret2
          exact ⟨rfl, rfl⟩
      · obtain rfl := hR4 hbad
        clear hR3 hR4
        have d1 : decide ((A : Int) < 65536) = false := decide_eq_false (by omega)
        have d2 : decide ((1114111 : Int) < (A : Nat)) = false := decide_eq_false (by omega)
        rcases (show (decide ((55296 : Int) ≤ (A : Nat)) = false) ∨ ((decide ((55296 : Int) ≤ (A : Nat)) = true) ∧ (decide ((A : Int) ≤ 57343) = false)) by
          by_cases h : (55296 : Int) ≤ (A : Nat)
          · exact .inr ⟨decide_eq_true h, decide_eq_false (by omega)⟩
          · exact .inl (decide_eq_false h)) with d3 | ⟨d3, d4⟩ <;> clear hbad
        · go_wp2
          go_ret2
          exact ⟨rfl, rfl⟩
        · go_wp2
          go_ret2
          exact ⟨rfl, rfl⟩

set_option maxRecDepth 100000 in
set_option maxHeartbeats 4000000 in
theorem rfirst_calls (s : ByteArray) (hs : 0 < s.size) (hs2 : s.size ≤ 140737488355328) (w : World) :
    Calls Tryz.prog 174 #[.string s] w fun e w' => e = .returned (.tuple #[.int .i64 ((fsR (tx s)).1 : Nat), .int .i64 ((fsR (tx s)).2 : Nat)]) ∧ w = w' := by
  obtain ⟨b, hb⟩ : ∃ b, (s[0]'hs).toNat = b := ⟨_, rfl⟩
  have hb0 : ((tx s).getD 0 0).toNat = b := by rw [byte_at s hs]; exact hb
  have hlt : ∀ x : UInt8, x.toNat < 256 := fun x => x.toNat_lt
  have hbl : b < 256 := by rw [← hb]; exact hlt _
  obtain ⟨f1, f2, f3, f4, f5⟩ := fst_eq (tx s).length b ((tx s).getD 1 0).toNat ((tx s).getD 2 0).toNat ((tx s).getD 3 0).toNat (by rw [txs_len]; omega) hbl (hlt _) (hlt _) (hlt _)
  obtain ⟨⟨t2, t3, t4⟩, u2, u3, u4⟩ := fst_tables (tx s) b
  have hfs : fsR (tx s) = fstR (tx s).length b ((tx s).getD 1 0).toNat ((tx s).getD 2 0).toNat ((tx s).getD 3 0).toNat := by unfold fsR; rw [hb0]
  rw [hfs]
  rw [txs_len] at *
  rcases (show b < 128 ∨ (128 ≤ b ∧ (b < 194 ∨ 244 < b)) ∨ (194 ≤ b ∧ b < 224) ∨ (224 ≤ b ∧ b < 240) ∨ (240 ≤ b ∧ b < 245) by omega) with h | h | h | h | h
  · have e : fstN b = 1 := by unfold fstN; rw [if_pos h]
    have e0 : fst0 b = b := by unfold fst0; rw [if_pos h]
    have el : fstL b = 0 := by unfold fstL; rw [if_pos h]
    rw [e] at f5
    have ea : fstA b ((tx s).getD 1 0).toNat ((tx s).getD 2 0).toNat ((tx s).getD 3 0).toNat 1 = b := e0
    rw [ea, el] at f5
    rw [f5 (by omega) (by omega) rfl (by omega)]
    have k1 : (b : Int) < 128 := by omega
    clear f1 f2 f3 f4 f5 t2 t3 t4 u2 u3 u4 hfs hb0 hlt ea e0 el e h
    go_enter Tryz.func174, Tryz.ntmps174
    go_wp2_with fail
    go_loop [5, 7] (fun v5 v7 => v7 = .int .i64 1 ∧ v5 = .int .i64 b) (fun _ _ => 0)
    case atStart => exact ⟨rfl, rfl⟩
    case round =>
      obtain ⟨rfl, rfl⟩ := hrel
      have d1 : decide ((b : Int) < 0) = false := decide_eq_false (by omega)
      have d2 : decide ((1114111 : Int) < (b : Nat)) = false := decide_eq_false (by omega)
      have d3 : decide ((55296 : Int) ≤ (b : Nat)) = false := decide_eq_false (by omega)
      go_wp2
      go_ret2
      exact ⟨rfl, rfl⟩
  · have e : fstN b = 0 := by unfold fstN; rw [if_neg (by omega), if_pos h.2]
    rw [f1 e]
    have hz : ((128 : Int) ≤ (b : Nat) ∧ (b : Int) < 194) ∨ ((194 : Int) ≤ (b : Nat) ∧ (244 : Int) < (b : Nat)) := by omega
    clear f1 f2 f3 f4 f5 t2 t3 t4 u2 u3 u4 hfs hb0 hlt e h
    rcases hz with ⟨z1, z2⟩ | ⟨z1, z2⟩
    · go_enter Tryz.func174, Tryz.ntmps174
      go_wp2
      go_ret2
      exact ⟨rfl, rfl⟩
    · have z3 : (128 : Int) ≤ (b : Nat) := by omega
      go_enter Tryz.func174, Tryz.ntmps174
      go_wp2
      go_ret2
      exact ⟨rfl, rfl⟩
  · have e : fstN b = 2 := by unfold fstN; rw [if_neg (by omega), if_neg (by omega), if_pos h.2]
    have e0 : fst0 b = b % 32 := by unfold fst0; rw [if_neg (by omega), if_pos h.2]
    have el : fstL b = 128 := by unfold fstL; rw [if_neg (by omega), if_pos h.2]
    simp only [e, t2, u2, e0, el] at f2 f3 f4 f5
    exact first2 s hs hs2 w b hb h.1 h.2 _ (fun x => f2 (by decide) x) (fun x y => f3 (by decide) x y) (fun x y z => f4 (by decide) x y z) (fun x y z => f5 (by decide) x y z)
  · have e : fstN b = 3 := by unfold fstN; rw [if_neg (by omega), if_neg (by omega), if_neg (by omega), if_pos h.2]
    have e0 : fst0 b = b % 16 := by unfold fst0; rw [if_neg (by omega), if_neg (by omega), if_pos h.2]
    have el : fstL b = 2048 := by unfold fstL; rw [if_neg (by omega), if_neg (by omega), if_pos h.2]
    simp only [e, t3, u3, e0, el] at f2 f3 f4 f5
    exact first3 s hs hs2 w b hb h.1 h.2 _ (fun x => f2 (by decide) x) (fun x y => f3 (by decide) x y) (fun x y z => f4 (by decide) x y z) (fun x y z => f5 (by decide) x y z)
  · have e : fstN b = 4 := by unfold fstN; rw [if_neg (by omega), if_neg (by omega), if_neg (by omega), if_neg (by omega)]
    have e0 : fst0 b = b % 8 := by unfold fst0; rw [if_neg (by omega), if_neg (by omega), if_neg (by omega)]
    have el : fstL b = 65536 := by unfold fstL; rw [if_neg (by omega), if_neg (by omega), if_neg (by omega)]
    simp only [e, t4, u4, e0, el] at f2 f3 f4 f5
    exact first4 s hs hs2 w b hb h.1 h.2 _ (fun x => f2 (by decide) x) (fun x y => f3 (by decide) x y) (fun x y z => f4 (by decide) x y z) (fun x y z => f5 (by decide) x y z)
end Go.Proofs.YtpjlepkdiaohiaaGreatDoor

/- The reference's Right of texts: walked. -/
namespace Go.Proofs.YtpjlepkdiaohiaaGreatDoor
open Go Go.RowKit
attribute [local go_sem] Oper.semAt_some

def szOf : Value → Nat | .string b => b.size | _ => 0
set_option maxRecDepth 100000 in
set_option maxHeartbeats 4000000 in
theorem rutf_calls (s : ByteArray) (hs : s.size ≤ 140737488355328) (w : World) :
    Calls Tryz.prog 149 #[.string s] w fun e w' => e = .returned (.bool (utfOk s)) ∧ w = w' := by
  obtain ⟨V, hV⟩ : ∃ V, utfOk s = V := ⟨_, rfl⟩
  rw [hV]
  have HV := hid (show Lib.validD (tx s) = V from hV)
  clear hV
  go_enter Tryz.func149, Tryz.ntmps149
  go_wp2
  go_loop [0] (fun v => ∃ r : ByteArray, v = .string r ∧ r.size ≤ s.size ∧ Lib.validD (tx r) = V) (fun v => szOf v)
  case atStart => exact ⟨s, rfl, Nat.le_refl _, HV.out⟩
  case round =>
    obtain ⟨r, rfl, hr, hv⟩ := hrel
    by_cases hz : r.size = 0
    · have he : r = ⟨#[]⟩ := by
        have h1 : tx r = [] := List.length_eq_zero_iff.1 (by rw [txs_len]; exact hz)
        have h2 := str_eq r
        rw [← h2]
        show (⟨(tx r).toArray⟩ : ByteArray) = _
        rw [h1]
      subst he
      obtain rfl : true = V := hv
      clear hz hr HV
      go_wp2
      go_ret
      exact ⟨rfl, rfl⟩
    · have hpos : 0 < r.size := by omega
      have hne : tx r ≠ [] := fun h => hz (by rw [← txs_len, h]; rfl)
      have hb1 : r.toList.isEmpty = false := by
        rw [Lib.toList_data]
        exact List.isEmpty_eq_false_iff.2 hne
      have hb2 : (!r.toList.isEmpty) = true := by rw [hb1]; rfl
      have hstep := fsR_valid (tx r) hne
      have hle := fsR_le (tx r) hne
      rw [txs_len] at hle
      rw [hv] at hstep
      have hf := rfirst_calls r hpos (by omega) w
      obtain ⟨C, hC⟩ : ∃ C, (fsR (tx r)).1 = C := ⟨_, rfl⟩
      obtain ⟨k, hk⟩ : ∃ k, (fsR (tx r)).2 = k := ⟨_, rfl⟩
      rw [hC, hk] at hf
      rw [hk] at hstep hle
      have hrl : r.size ≤ 140737488355328 := by omega
      have HS := hid (And.intro hstep (And.intro hr hk))
      clear hstep hr hk hC hne hz hv
      go_wp2_with fail
      refine hf.mono ?_
      rintro e w1 ⟨rfl, rfl⟩
      clear hf
      by_cases hk0 : k = 0
      · subst hk0
        obtain rfl : V = false := HS.out.1
        go_wp2
        go_ret
        exact ⟨rfl, rfl⟩
      · have hx : tx (r.extract k r.size) = (tx r).drop k := by unfold tx; rw [Lib.extract_data, List.take_of_length_le (by rw [List.length_drop, len_str]; omega)]
        have hsz : (r.extract k r.size).size = r.size - k := by rw [← txs_len, hx, List.length_drop, txs_len]
        have hval : Lib.validD (tx (r.extract k r.size)) = V := by
          rw [hx, HS.out.1, if_neg hk0]
        have hz0 : ((k : Int) == 0) = false := by rw [beq_eq_false_iff_ne]; omega
        have hk1 : 0 < k := by omega
        have HQ := hid (And.intro hval hsz)
        clear hval hsz hx hk0
        go_wp2
        go_round
        case rel => exact ⟨_, rfl, by rw [HQ.out.2]; have := HS.out.2.1; omega, HQ.out.1⟩
        case measure => simp only [szOf]; rw [HQ.out.2]; omega
end Go.Proofs.YtpjlepkdiaohiaaGreatDoor

/- The reference's IsWidth, sizes, IsFinite, Widen (targumref05): walked. -/
namespace Go.Proofs.YtpjlepkdiaohiaaGreatDoor
open Go.RowKit Go.Shelf
attribute [local go_sem] Oper.semAt_some

theorem kk2 (s E : Nat) : (s * 2048 + E) * 4503599627370496 = s * 9223372036854775808 + E * 4503599627370496 := by omega
theorem kk1 (s : Nat) : (s * 2048 + 2047) * 4503599627370496 = s * 9223372036854775808 + 9218868437227405312 := by omega
theorem kk3 (s g : Nat) : s * C64 + 2047 * A64 + g = s * 9223372036854775808 + 9218868437227405312 + g := by unfold C64 A64; omega
theorem kk4 (s E g : Nat) : s * C64 + E * A64 + g = s * 9223372036854775808 + E * 4503599627370496 + g := by unfold C64 A64; rfl

theorem rIsWidth_calls (x : Int) (w : World) :
    Calls Tryz.prog 120 #[.int .i64 x] w fun e w' => e = .returned (.bool (isW x)) ∧ w = w' := by
  cases h : isW x with
  | true =>
    rcases isW_cases h with rfl | rfl | rfl
    all_goals (
      go_enter Tryz.func120, Tryz.ntmps120
      go_wp2
      go_ret
      exact ⟨rfl, rfl⟩)
  | false =>
    unfold isW at h
    rw [Bool.or_eq_false_iff, Bool.or_eq_false_iff, decide_eq_false_iff_not, decide_eq_false_iff_not, decide_eq_false_iff_not] at h
    obtain ⟨h1, h2, h3⟩ := h
    have g1 : (x == 16) = false := beq_eq_false_iff_ne.2 h1
    have g2 : (x == 32) = false := beq_eq_false_iff_ne.2 h2
    have g3 : (x == 64) = false := beq_eq_false_iff_ne.2 h3
    go_enter Tryz.func120, Tryz.ntmps120
    go_wp2
    go_ret
    exact ⟨rfl, rfl⟩
theorem rsizes16 (w : World) :
    Calls Tryz.prog 121 #[.int .i64 16] w fun e w' => e = .returned (.tuple #[.int .i64 10, .int .i64 5]) ∧ w = w' := by
  go_enter Tryz.func121, Tryz.ntmps121
  go_wp2
  go_ret2
  exact ⟨rfl, rfl⟩
theorem rsizes32 (w : World) :
    Calls Tryz.prog 121 #[.int .i64 32] w fun e w' => e = .returned (.tuple #[.int .i64 23, .int .i64 8]) ∧ w = w' := by
  go_enter Tryz.func121, Tryz.ntmps121
  go_wp2
  go_ret2
  exact ⟨rfl, rfl⟩
set_option maxRecDepth 100000 in
set_option maxHeartbeats 4000000 in
theorem rwiden_none (b : Nat) (x : Int) (hx : isW x = false) (w : World) :
    Calls Tryz.prog 72 #[.int .u64 b, .int .i64 x] w fun e w' => e = .returned (.tuple #[.int .u64 0, .int .i64 2]) ∧ Below w.heap.size w w' := by
  have hiw := fun W => rIsWidth_calls x W
  rw [hx] at hiw
  go_enter Tryz.func72, Tryz.ntmps72
  go_wp2_with fail
  refine (hiw _).mono ?_
  rintro e w1 ⟨rfl, rfl⟩
  go_wp2
  go_ret2
  exact ⟨rfl, Below.refl _ _⟩
theorem rwiden_64 (b : Nat) (w : World) :
    Calls Tryz.prog 72 #[.int .u64 b, .int .i64 64] w fun e w' => e = .returned (.tuple #[.int .u64 b, .int .i64 0]) ∧ Below w.heap.size w w' := by
  have hiw := fun W => rIsWidth_calls 64 W
  change ∀ W, Calls _ _ _ _ fun e w' => e = .returned (.bool true) ∧ _ at hiw
  go_enter Tryz.func72, Tryz.ntmps72
  go_wp2_with fail
  refine (hiw _).mono ?_
  rintro e w1 ⟨rfl, rfl⟩
  go_wp2
  go_ret2
  exact ⟨rfl, Below.refl _ _⟩

set_option maxRecDepth 100000 in
set_option maxHeartbeats 4000000 in
theorem rwiden16_long (b : Nat) (hb2 : ¬ b < 65536) (w : World) :
    Calls Tryz.prog 72 #[.int .u64 b, .int .i64 16] w fun e w' => e = .returned (.tuple #[.int .u64 0, .int .i64 2]) ∧ Below w.heap.size w w' := by
  have hiw := fun W => rIsWidth_calls 16 W
  change ∀ W, Calls _ _ _ _ fun e w' => e = .returned (.bool true) ∧ _ at hiw
  obtain ⟨q, hq⟩ : ∃ q, b / 65536 = q := ⟨_, rfl⟩
  have hqd : (b : Int) / 65536 = (q : Int) := by omega
  have hq0 : ((q : Int) != 0) = true := by rw [bne_iff_ne]; omega
  clear hq hb2
  go_enter Tryz.func72, Tryz.ntmps72
  go_wp2_with fail
  refine (hiw _).mono ?_
  rintro e w1 ⟨rfl, rfl⟩
  go_wp2
  go_ret2
  exact ⟨rfl, Below.refl _ _⟩

set_option maxRecDepth 100000 in
set_option maxHeartbeats 4000000 in
theorem rwiden16_top (b : Nat) (hb2 : b < 65536) (he : b / 1024 % 32 = 31) (w : World) :
    Calls Tryz.prog 72 #[.int .u64 b, .int .i64 16] w fun e w' => e = .returned (.tuple #[.int .u64 (widV f16 b : Nat), .int .i64 0]) ∧ Below w.heap.size w w' := by
  have hb : b < 18446744073709551616 := by omega
  have hiw := fun W => rIsWidth_calls 16 W
  change ∀ W, Calls _ _ _ _ fun e w' => e = .returned (.bool true) ∧ _ at hiw
  have hsz := rsizes16
  have hV : widV f16 b = widV f16 b := rfl
  conv at hV => rhs; unfold widV
  change widV f16 b = (if b / 1024 % 32 = 31 then b / 32768 * C64 + 2047 * A64 + b % 1024 * 4398046511104 else if b / 1024 % 32 = 0 then (if b % 1024 = 0 then b / 32768 * C64 else b / 32768 * C64 + (1024 - 15 - up f16 (b % 1024)) * A64 + (b % 1024 * 2 ^ up f16 (b % 1024) - 1024) * 4398046511104) else b / 32768 * C64 + (b / 1024 % 32 + 1023 - 15) * A64 + b % 1024 * 4398046511104) at hV
  have hq0 : (b : Int) / 65536 = 0 := by omega
  obtain ⟨s, hs⟩ : ∃ s, b / 32768 = s := ⟨_, rfl⟩
  have hsd : (b : Int) / 32768 = (s : Int) := by omega
  have hs2 : s < 2 := by omega
  obtain ⟨q, hq⟩ : ∃ q, b / 1024 = q := ⟨_, rfl⟩
  have hqd : (b : Int) / 1024 = (q : Int) := by omega
  have e1 := and_mask (x := q) (n := 5) (by omega) 31 (by decide) (by decide)
  have e2 := and_mask (x := b) (n := 10) hb (1024 - 1) (by decide) (by decide)
  change _ = ((q % 32 : Nat) : Int) at e1
  change bits .and .u64 (b : Int) (1023 : Int) = ((b % 1024 : Nat) : Int) at e2
  rw [hq] at he hV
  rw [hs] at hV
  obtain ⟨e, hee⟩ : ∃ e, q % 32 = e := ⟨_, rfl⟩
  obtain ⟨f, hf⟩ : ∃ f, b % 1024 = f := ⟨_, rfl⟩
  rw [hee] at he e1 hV
  rw [hf] at e2 hV
  have hfl : f < 1024 := by omega
  have hel : e < 32 := by omega
  have hwe : IntKind.i64.wrap (e : Int) = (e : Int) := IntWalk.i64_in _ (by omega)
  obtain ⟨sv, hsv⟩ : ∃ v : Nat, s * 9223372036854775808 = v := ⟨_, rfl⟩
  have hsm : (s : Int) * 9223372036854775808 = (sv : Int) := by omega
  have hsw : IntKind.u64.wrap (sv : Int) = (sv : Int) := IntWalk.u64_in _ (by omega)
  subst he
  rw [if_pos rfl] at hV
  obtain ⟨fd, hfd⟩ : ∃ v : Nat, f * 4398046511104 = v := ⟨_, rfl⟩
  have hfm : (f : Int) * 4398046511104 = (fd : Int) := by omega
  have hfw : IntKind.u64.wrap (fd : Int) = (fd : Int) := IntWalk.u64_in _ (by omega)
  obtain ⟨v1, hv1⟩ : ∃ v : Nat, sv + 9218868437227405312 = v := ⟨_, rfl⟩
  obtain ⟨v2, hv2⟩ : ∃ v : Nat, v1 + fd = v := ⟨_, rfl⟩
  have k1 : (s * 2048 + 2047) * 4503599627370496 = v1 := by rw [kk1, hsv, hv1]
  have HR := hid (show widV f16 b = v2 by rw [hV, kk3, hsv, hv1, hfd, hv2])
  have g2 := or_add (a := s * 2048 + 2047) (b := fd) (n := 52) (by omega) (by omega)
  have g1 := or_add (a := s) (b := 9218868437227405312) (n := 63) (by decide) (by omega)
  change bits .or .u64 ((s * 9223372036854775808 : Nat) : Int) 9218868437227405312 = ((s * 9223372036854775808 + 9218868437227405312 : Nat) : Int) at g1
  rw [hsv, hv1] at g1
  change bits .or .u64 (((s * 2048 + 2047) * 4503599627370496 : Nat) : Int) (fd : Int) = (((s * 2048 + 2047) * 4503599627370496 + fd : Nat) : Int) at g2
  rw [k1, hv2] at g2
  clear hV hv1 hv2 hfd k1 hsv hf hee hq hs hfl hel hs2 hb hb2
  go_enter Tryz.func72, Tryz.ntmps72
  go_wp2_with fail
  refine (hiw _).mono ?_
  rintro e w1 ⟨rfl, rfl⟩
  go_wp2_with fail
  refine (hsz _).mono ?_
  rintro e w2 ⟨rfl, rfl⟩
  go_wp2
  go_quiet (fail)
  go_wp2
  go_ret2
  exact ⟨by rw [HR.out] <;> rfl, belowN (Below.refl _ _) _⟩

set_option maxRecDepth 100000 in
set_option maxHeartbeats 4000000 in
theorem rwiden16_zero (b : Nat) (hb2 : b < 65536) (he : b / 1024 % 32 = 0) (hf0 : b % 1024 = 0) (w : World) :
    Calls Tryz.prog 72 #[.int .u64 b, .int .i64 16] w fun e w' => e = .returned (.tuple #[.int .u64 (widV f16 b : Nat), .int .i64 0]) ∧ Below w.heap.size w w' := by
  have hb : b < 18446744073709551616 := by omega
  have hiw := fun W => rIsWidth_calls 16 W
  change ∀ W, Calls _ _ _ _ fun e w' => e = .returned (.bool true) ∧ _ at hiw
  have hsz := rsizes16
  have hV : widV f16 b = widV f16 b := rfl
  conv at hV => rhs; unfold widV
  change widV f16 b = (if b / 1024 % 32 = 31 then b / 32768 * C64 + 2047 * A64 + b % 1024 * 4398046511104 else if b / 1024 % 32 = 0 then (if b % 1024 = 0 then b / 32768 * C64 else b / 32768 * C64 + (1024 - 15 - up f16 (b % 1024)) * A64 + (b % 1024 * 2 ^ up f16 (b % 1024) - 1024) * 4398046511104) else b / 32768 * C64 + (b / 1024 % 32 + 1023 - 15) * A64 + b % 1024 * 4398046511104) at hV
  have hq0 : (b : Int) / 65536 = 0 := by omega
  obtain ⟨s, hs⟩ : ∃ s, b / 32768 = s := ⟨_, rfl⟩
  have hsd : (b : Int) / 32768 = (s : Int) := by omega
  have hs2 : s < 2 := by omega
  obtain ⟨q, hq⟩ : ∃ q, b / 1024 = q := ⟨_, rfl⟩
  have hqd : (b : Int) / 1024 = (q : Int) := by omega
  have e1 := and_mask (x := q) (n := 5) (by omega) 31 (by decide) (by decide)
  have e2 := and_mask (x := b) (n := 10) hb (1024 - 1) (by decide) (by decide)
  change _ = ((q % 32 : Nat) : Int) at e1
  change bits .and .u64 (b : Int) (1023 : Int) = ((b % 1024 : Nat) : Int) at e2
  rw [hq] at he hV
  rw [hs] at hV
  obtain ⟨e, hee⟩ : ∃ e, q % 32 = e := ⟨_, rfl⟩
  obtain ⟨f, hf⟩ : ∃ f, b % 1024 = f := ⟨_, rfl⟩
  rw [hee] at he e1 hV
  rw [hf] at e2 hV
  have hfl : f < 1024 := by omega
  have hel : e < 32 := by omega
  have hwe : IntKind.i64.wrap (e : Int) = (e : Int) := IntWalk.i64_in _ (by omega)
  obtain ⟨sv, hsv⟩ : ∃ v : Nat, s * 9223372036854775808 = v := ⟨_, rfl⟩
  have hsm : (s : Int) * 9223372036854775808 = (sv : Int) := by omega
  have hsw : IntKind.u64.wrap (sv : Int) = (sv : Int) := IntWalk.u64_in _ (by omega)
  rw [hf] at hf0
  subst he
  subst hf0
  rw [if_neg (by decide), if_pos rfl, if_pos rfl] at hV
  change bits .and .u64 (q : Int) 31 = 0 at e1
  change bits .and .u64 (b : Int) 1023 = 0 at e2
  have HR := hid (show widV f16 b = sv by rw [hV]; unfold C64; omega)
  clear hV hsv hf hee hq hs hfl hel hs2 hb hb2 hwe
  go_enter Tryz.func72, Tryz.ntmps72
  go_wp2_with fail
  refine (hiw _).mono ?_
  rintro e w1 ⟨rfl, rfl⟩
  go_wp2_with fail
  refine (hsz _).mono ?_
  rintro e w2 ⟨rfl, rfl⟩
  go_wp2
  go_quiet (fail)
  go_wp2
  go_ret2
  exact ⟨by rw [HR.out] <;> rfl, belowN (Below.refl _ _) _⟩

set_option maxRecDepth 100000 in
set_option maxHeartbeats 4000000 in
theorem rwiden16_main (b : Nat) (hb2 : b < 65536) (he : b / 1024 % 32 ≠ 0 ∧ b / 1024 % 32 ≠ 31) (w : World) :
    Calls Tryz.prog 72 #[.int .u64 b, .int .i64 16] w fun e w' => e = .returned (.tuple #[.int .u64 (widV f16 b : Nat), .int .i64 0]) ∧ Below w.heap.size w w' := by
  have hb : b < 18446744073709551616 := by omega
  have hiw := fun W => rIsWidth_calls 16 W
  change ∀ W, Calls _ _ _ _ fun e w' => e = .returned (.bool true) ∧ _ at hiw
  have hsz := rsizes16
  have hV : widV f16 b = widV f16 b := rfl
  conv at hV => rhs; unfold widV
  change widV f16 b = (if b / 1024 % 32 = 31 then b / 32768 * C64 + 2047 * A64 + b % 1024 * 4398046511104 else if b / 1024 % 32 = 0 then (if b % 1024 = 0 then b / 32768 * C64 else b / 32768 * C64 + (1024 - 15 - up f16 (b % 1024)) * A64 + (b % 1024 * 2 ^ up f16 (b % 1024) - 1024) * 4398046511104) else b / 32768 * C64 + (b / 1024 % 32 + 1023 - 15) * A64 + b % 1024 * 4398046511104) at hV
  have hq0 : (b : Int) / 65536 = 0 := by omega
  obtain ⟨s, hs⟩ : ∃ s, b / 32768 = s := ⟨_, rfl⟩
  have hsd : (b : Int) / 32768 = (s : Int) := by omega
  have hs2 : s < 2 := by omega
  obtain ⟨q, hq⟩ : ∃ q, b / 1024 = q := ⟨_, rfl⟩
  have hqd : (b : Int) / 1024 = (q : Int) := by omega
  have e1 := and_mask (x := q) (n := 5) (by omega) 31 (by decide) (by decide)
  have e2 := and_mask (x := b) (n := 10) hb (1024 - 1) (by decide) (by decide)
  change _ = ((q % 32 : Nat) : Int) at e1
  change bits .and .u64 (b : Int) (1023 : Int) = ((b % 1024 : Nat) : Int) at e2
  rw [hq] at he hV
  rw [hs] at hV
  obtain ⟨e, hee⟩ : ∃ e, q % 32 = e := ⟨_, rfl⟩
  obtain ⟨f, hf⟩ : ∃ f, b % 1024 = f := ⟨_, rfl⟩
  rw [hee] at he e1 hV
  rw [hf] at e2 hV
  have hfl : f < 1024 := by omega
  have hel : e < 32 := by omega
  have hwe : IntKind.i64.wrap (e : Int) = (e : Int) := IntWalk.i64_in _ (by omega)
  obtain ⟨sv, hsv⟩ : ∃ v : Nat, s * 9223372036854775808 = v := ⟨_, rfl⟩
  have hsm : (s : Int) * 9223372036854775808 = (sv : Int) := by omega
  have hsw : IntKind.u64.wrap (sv : Int) = (sv : Int) := IntWalk.u64_in _ (by omega)
  rw [if_neg he.2, if_neg he.1] at hV
  have he1 : ((e : Int) == 31) = false := by rw [beq_eq_false_iff_ne]; omega
  have he2 : ((e : Int) == 0) = false := by rw [beq_eq_false_iff_ne]; omega
  obtain ⟨E, hE⟩ : ∃ v : Nat, e + 1023 - 15 = v := ⟨_, rfl⟩
  rw [hE] at hV
  obtain ⟨y1, hy1⟩ : ∃ y : Int, (e : Int) - 15 = y := ⟨_, rfl⟩
  have hy2 : y1 + 1023 = (E : Int) := by omega
  have hyw1 : IntKind.i64.wrap y1 = y1 := IntWalk.i64_in _ (by omega)
  have hyw2 : IntKind.i64.wrap (E : Int) = (E : Int) := IntWalk.i64_in _ (by omega)
  have hyw3 : IntKind.u64.wrap (E : Int) = (E : Int) := IntWalk.u64_in _ (by omega)
  obtain ⟨ev, hev⟩ : ∃ v : Nat, E * 4503599627370496 = v := ⟨_, rfl⟩
  have hem : (E : Int) * 4503599627370496 = (ev : Int) := by omega
  have hew : IntKind.u64.wrap (ev : Int) = (ev : Int) := IntWalk.u64_in _ (by omega)
  obtain ⟨fd, hfd⟩ : ∃ v : Nat, f * 4398046511104 = v := ⟨_, rfl⟩
  have hfm : (f : Int) * 4398046511104 = (fd : Int) := by omega
  have hfw : IntKind.u64.wrap (fd : Int) = (fd : Int) := IntWalk.u64_in _ (by omega)
  obtain ⟨v1, hv1⟩ : ∃ v : Nat, sv + ev = v := ⟨_, rfl⟩
  obtain ⟨v2, hv2⟩ : ∃ v : Nat, v1 + fd = v := ⟨_, rfl⟩
  have k1 : (s * 2048 + E) * 4503599627370496 = v1 := by rw [kk2, hsv, hev, hv1]
  have HR := hid (show widV f16 b = v2 by rw [hV, kk4, hsv, hev, hv1, hfd, hv2])
  have g2 := or_add (a := s * 2048 + E) (b := fd) (n := 52) (by omega) (by omega)
  have g1 := or_add (a := s) (b := ev) (n := 63) (by omega) (by omega)
  change bits .or .u64 ((s * 9223372036854775808 : Nat) : Int) (ev : Int) = ((s * 9223372036854775808 + ev : Nat) : Int) at g1
  rw [hsv, hv1] at g1
  change bits .or .u64 (((s * 2048 + E) * 4503599627370496 : Nat) : Int) (fd : Int) = (((s * 2048 + E) * 4503599627370496 + fd : Nat) : Int) at g2
  rw [k1, hv2] at g2
  clear hV hv1 hv2 hfd k1 hsv hf hee hq hs hfl hel hs2 hb hb2 hev hE he
  go_enter Tryz.func72, Tryz.ntmps72
  go_wp2_with fail
  refine (hiw _).mono ?_
  rintro e w1 ⟨rfl, rfl⟩
  go_wp2_with fail
  refine (hsz _).mono ?_
  rintro e w2 ⟨rfl, rfl⟩
  go_wp2
  go_quiet (fail)
  go_wp2
  go_ret2
  exact ⟨by rw [HR.out] <;> rfl, belowN (Below.refl _ _) _⟩

set_option maxRecDepth 100000 in
set_option maxHeartbeats 4000000 in
theorem rwiden16_sub (b : Nat) (hb2 : b < 65536) (he : b / 1024 % 32 = 0) (hf0 : b % 1024 ≠ 0) (w : World) :
    Calls Tryz.prog 72 #[.int .u64 b, .int .i64 16] w fun e w' => e = .returned (.tuple #[.int .u64 (widV f16 b : Nat), .int .i64 0]) ∧ Below w.heap.size w w' := by
  have hb : b < 18446744073709551616 := by omega
  have hiw := fun W => rIsWidth_calls 16 W
  change ∀ W, Calls _ _ _ _ fun e w' => e = .returned (.bool true) ∧ _ at hiw
  have hsz := rsizes16
  have hV : widV f16 b = widV f16 b := rfl
  conv at hV => rhs; unfold widV
  change widV f16 b = (if b / 1024 % 32 = 31 then b / 32768 * C64 + 2047 * A64 + b % 1024 * 4398046511104 else if b / 1024 % 32 = 0 then (if b % 1024 = 0 then b / 32768 * C64 else b / 32768 * C64 + (1024 - 15 - up f16 (b % 1024)) * A64 + (b % 1024 * 2 ^ up f16 (b % 1024) - 1024) * 4398046511104) else b / 32768 * C64 + (b / 1024 % 32 + 1023 - 15) * A64 + b % 1024 * 4398046511104) at hV
  have hq0 : (b : Int) / 65536 = 0 := by omega
  obtain ⟨s, hs⟩ : ∃ s, b / 32768 = s := ⟨_, rfl⟩
  have hsd : (b : Int) / 32768 = (s : Int) := by omega
  have hs2 : s < 2 := by omega
  obtain ⟨q, hq⟩ : ∃ q, b / 1024 = q := ⟨_, rfl⟩
  have hqd : (b : Int) / 1024 = (q : Int) := by omega
  have e1 := and_mask (x := q) (n := 5) (by omega) 31 (by decide) (by decide)
  have e2 := and_mask (x := b) (n := 10) hb (1024 - 1) (by decide) (by decide)
  change _ = ((q % 32 : Nat) : Int) at e1
  change bits .and .u64 (b : Int) (1023 : Int) = ((b % 1024 : Nat) : Int) at e2
  rw [hq] at he hV
  rw [hs] at hV
  obtain ⟨e, hee⟩ : ∃ e, q % 32 = e := ⟨_, rfl⟩
  obtain ⟨f, hf⟩ : ∃ f, b % 1024 = f := ⟨_, rfl⟩
  rw [hee] at he e1 hV
  rw [hf] at e2 hV
  have hfl : f < 1024 := by omega
  have hel : e < 32 := by omega
  have hwe : IntKind.i64.wrap (e : Int) = (e : Int) := IntWalk.i64_in _ (by omega)
  obtain ⟨sv, hsv⟩ : ∃ v : Nat, s * 9223372036854775808 = v := ⟨_, rfl⟩
  have hsm : (s : Int) * 9223372036854775808 = (sv : Int) := by omega
  have hsw : IntKind.u64.wrap (sv : Int) = (sv : Int) := IntWalk.u64_in _ (by omega)
  rw [hf] at hf0
  subst he
  rw [if_neg (by decide), if_pos rfl, if_neg hf0] at hV
  change bits .and .u64 (q : Int) 31 = 0 at e1
  obtain ⟨u1, u2, u3, u4⟩ := up_spec f16 (by first | exact .inl rfl | exact .inr rfl) hf0 hfl
  change up f16 f ≤ 10 at u2
  change 1024 ≤ f * 2 ^ up f16 f at u3
  change f * 2 ^ up f16 f < 2 * 1024 at u4
  obtain ⟨U, hUe⟩ : ∃ U, up f16 f = U := ⟨_, rfl⟩
  rw [hUe] at u1 u2 u3 u4 hV
  have hf0b : ((f : Int) == 0) = false := by rw [beq_eq_false_iff_ne]; omega
  obtain ⟨Y, hY⟩ : ∃ v : Nat, f * 2 ^ U = v := ⟨_, rfl⟩
  have hstep : ∀ j, j < U → f * 2 ^ j < 1024 := by
    intro j hj
    have h1 : f * 2 ^ (j + 1) ≤ f * 2 ^ U := Nat.mul_le_mul_left _ (pow_le hj)
    rw [Nat.pow_succ, ← Nat.mul_assoc] at h1
    omega
  rw [hY] at u3 u4 hV
  obtain ⟨g, hg⟩ : ∃ v : Nat, Y - 1024 = v := ⟨_, rfl⟩
  have hgi : (Y : Int) - 1024 = (g : Int) := by omega
  have hgw : IntKind.u64.wrap (g : Int) = (g : Int) := IntWalk.u64_in _ (by omega)
  rw [hg] at hV
  obtain ⟨E, hE⟩ : ∃ v : Nat, 1024 - 15 - U = v := ⟨_, rfl⟩
  rw [hE] at hV
  obtain ⟨ye, hye⟩ : ∃ y : Int, 1 - (U : Int) = y := ⟨_, rfl⟩
  obtain ⟨y1, hy1⟩ : ∃ y : Int, ye - 15 = y := ⟨_, rfl⟩
  have hy2 : y1 + 1023 = (E : Int) := by omega
  have hyw1 : IntKind.i64.wrap y1 = y1 := IntWalk.i64_in _ (by omega)
  have hyw2 : IntKind.i64.wrap (E : Int) = (E : Int) := IntWalk.i64_in _ (by omega)
  have hyw3 : IntKind.u64.wrap (E : Int) = (E : Int) := IntWalk.u64_in _ (by omega)
  obtain ⟨ev, hev⟩ : ∃ v : Nat, E * 4503599627370496 = v := ⟨_, rfl⟩
  have hem : (E : Int) * 4503599627370496 = (ev : Int) := by omega
  have hew : IntKind.u64.wrap (ev : Int) = (ev : Int) := IntWalk.u64_in _ (by omega)
  obtain ⟨fd, hfd⟩ : ∃ v : Nat, g * 4398046511104 = v := ⟨_, rfl⟩
  have hfm : (g : Int) * 4398046511104 = (fd : Int) := by omega
  have hfw : IntKind.u64.wrap (fd : Int) = (fd : Int) := IntWalk.u64_in _ (by omega)
  obtain ⟨v1, hv1⟩ : ∃ v : Nat, sv + ev = v := ⟨_, rfl⟩
  obtain ⟨v2, hv2⟩ : ∃ v : Nat, v1 + fd = v := ⟨_, rfl⟩
  have k1 : (s * 2048 + E) * 4503599627370496 = v1 := by rw [kk2, hsv, hev, hv1]
  have HR := hid (show widV f16 b = v2 by rw [hV, kk4, hsv, hev, hv1, hfd, hv2])
  have g2 := or_add (a := s * 2048 + E) (b := fd) (n := 52) (by omega) (by omega)
  have g1 := or_add (a := s) (b := ev) (n := 63) (by omega) (by omega)
  change bits .or .u64 ((s * 9223372036854775808 : Nat) : Int) (ev : Int) = ((s * 9223372036854775808 + ev : Nat) : Int) at g1
  rw [hsv, hv1] at g1
  change bits .or .u64 (((s * 2048 + E) * 4503599627370496 : Nat) : Int) (fd : Int) = (((s * 2048 + E) * 4503599627370496 + fd : Nat) : Int) at g2
  rw [k1, hv2] at g2
  have HP := hid (And.intro hstep (And.intro u3 (And.intro u4 (And.intro hY u2))))
  have HU := hid hye
  clear hV hv1 hv2 hfd k1 hsv hf hee hq hs hel hs2 hb hb2 hev hE u1 u2 u3 u4 hg hY hUe hstep hye hwe hf0 hfl
  go_enter Tryz.func72, Tryz.ntmps72
  go_wp2_with fail
  refine (hiw _).mono ?_
  rintro e w1 ⟨rfl, rfl⟩
  go_wp2_with fail
  refine (hsz _).mono ?_
  rintro e w2 ⟨rfl, rfl⟩
  go_wp2
  go_quiet (fail)
  go_wp2
  have hWq : Below w.heap.size w (w.drewN nq) := belowN (Below.refl _ _) nq
  generalize w.drewN nq = Z1 at *
  go_loopw [9, 10] (fun v1 v2 wq => ∃ (j : Nat), j ≤ U ∧ v1 = .int .i64 (1 - (j : Int)) ∧ v2 = .int .u64 (f * 2 ^ j : Nat) ∧ Below w.heap.size w wq) (fun v1 _ _ => U - (1 - intOf v1).toNat)
  case atStart => exact ⟨0, Nat.zero_le _, rfl, by rw [Nat.pow_zero, Nat.mul_one], hWq⟩
  case round =>
    obtain ⟨j, hj, rfl, rfl, hB⟩ := hrel
    obtain ⟨hstep, u3, u4, hY, u2⟩ := HP.out
    obtain ⟨X, hX⟩ : ∃ v, f * 2 ^ j = v := ⟨_, rfl⟩
    by_cases hlt : X < 1024
    · have hjU : j < U := by
        rcases Nat.lt_or_ge j U with h | h
        · exact h
        · obtain rfl : j = U := by omega
          omega
      have hX0 : (X : Int) / 1024 = 0 := by omega
      obtain ⟨X2, hX2⟩ : ∃ v, f * 2 ^ (j + 1) = v := ⟨_, rfl⟩
      have hXX : 2 * (X : Int) = (X2 : Int) := by rw [← hX2, Nat.pow_succ, ← Nat.mul_assoc, hX]; omega
      have hXw : IntKind.u64.wrap (X2 : Int) = (X2 : Int) := IntWalk.u64_in _ (by omega)
      obtain ⟨a1, ha1⟩ : ∃ y : Int, 1 - (j : Int) = y := ⟨_, rfl⟩
      obtain ⟨a2, ha2⟩ : ∃ y : Int, a1 - 1 = y := ⟨_, rfl⟩
      have haw : IntKind.i64.wrap a2 = a2 := IntWalk.i64_in _ (by omega)
      rw [hX, ha1]
      have HX := hid (And.intro hX2 (And.intro hjU (And.intro ha1 ha2)))
      clear hX hX2 hlt hstep u3 u4 hY u2 hj hjU ha1
      go_wp2
      go_roundw
      case rel =>
        obtain ⟨k1, k2, k3, k4⟩ := HX.out
        refine ⟨j + 1, k2, ?_, by rw [k1], hB⟩
        congr 1
        omega
      case measure =>
        obtain ⟨k1, k2, k3, k4⟩ := HX.out
        simp [intOf]; omega
    · have hjU : j = U := by
        rcases Nat.lt_or_ge j U with h | h
        · exact absurd (hX ▸ hstep j h) hlt
        · omega
      subst hjU
      obtain rfl : X = Y := by rw [← hX, ← hY]
      obtain ⟨r, hr⟩ : ∃ r : Nat, X / 1024 = r := ⟨_, rfl⟩
      have hri : (X : Int) / 1024 = (r : Int) := by omega
      have hr0 : ((r : Int) == 0) = false := by rw [beq_eq_false_iff_ne]; omega
      rw [hX, HU.out]
      clear hX hlt hstep u3 u4 hY u2 hj hr HP
      go_wp2
      go_ret2
      exact ⟨by rw [HR.out] <;> rfl, hB⟩

set_option maxRecDepth 100000 in
set_option maxHeartbeats 4000000 in
theorem rwiden32_long (b : Nat) (hb2 : ¬ b < 4294967296) (w : World) :
    Calls Tryz.prog 72 #[.int .u64 b, .int .i64 32] w fun e w' => e = .returned (.tuple #[.int .u64 0, .int .i64 2]) ∧ Below w.heap.size w w' := by
  have hiw := fun W => rIsWidth_calls 32 W
  change ∀ W, Calls _ _ _ _ fun e w' => e = .returned (.bool true) ∧ _ at hiw
  obtain ⟨q, hq⟩ : ∃ q, b / 4294967296 = q := ⟨_, rfl⟩
  have hqd : (b : Int) / 4294967296 = (q : Int) := by omega
  have hq0 : ((q : Int) != 0) = true := by rw [bne_iff_ne]; omega
  clear hq hb2
  go_enter Tryz.func72, Tryz.ntmps72
  go_wp2_with fail
  refine (hiw _).mono ?_
  rintro e w1 ⟨rfl, rfl⟩
  go_wp2
  go_ret2
  exact ⟨rfl, Below.refl _ _⟩

set_option maxRecDepth 100000 in
set_option maxHeartbeats 4000000 in
theorem rwiden32_top (b : Nat) (hb2 : b < 4294967296) (he : b / 8388608 % 256 = 255) (w : World) :
    Calls Tryz.prog 72 #[.int .u64 b, .int .i64 32] w fun e w' => e = .returned (.tuple #[.int .u64 (widV f32 b : Nat), .int .i64 0]) ∧ Below w.heap.size w w' := by
  have hb : b < 18446744073709551616 := by omega
  have hiw := fun W => rIsWidth_calls 32 W
  change ∀ W, Calls _ _ _ _ fun e w' => e = .returned (.bool true) ∧ _ at hiw
  have hsz := rsizes32
  have hV : widV f32 b = widV f32 b := rfl
  conv at hV => rhs; unfold widV
  change widV f32 b = (if b / 8388608 % 256 = 255 then b / 2147483648 * C64 + 2047 * A64 + b % 8388608 * 536870912 else if b / 8388608 % 256 = 0 then (if b % 8388608 = 0 then b / 2147483648 * C64 else b / 2147483648 * C64 + (1024 - 127 - up f32 (b % 8388608)) * A64 + (b % 8388608 * 2 ^ up f32 (b % 8388608) - 8388608) * 536870912) else b / 2147483648 * C64 + (b / 8388608 % 256 + 1023 - 127) * A64 + b % 8388608 * 536870912) at hV
  have hq0 : (b : Int) / 4294967296 = 0 := by omega
  obtain ⟨s, hs⟩ : ∃ s, b / 2147483648 = s := ⟨_, rfl⟩
  have hsd : (b : Int) / 2147483648 = (s : Int) := by omega
  have hs2 : s < 2 := by omega
  obtain ⟨q, hq⟩ : ∃ q, b / 8388608 = q := ⟨_, rfl⟩
  have hqd : (b : Int) / 8388608 = (q : Int) := by omega
  have e1 := and_mask (x := q) (n := 8) (by omega) 255 (by decide) (by decide)
  have e2 := and_mask (x := b) (n := 23) hb (8388608 - 1) (by decide) (by decide)
  change _ = ((q % 256 : Nat) : Int) at e1
  change bits .and .u64 (b : Int) (8388607 : Int) = ((b % 8388608 : Nat) : Int) at e2
  rw [hq] at he hV
  rw [hs] at hV
  obtain ⟨e, hee⟩ : ∃ e, q % 256 = e := ⟨_, rfl⟩
  obtain ⟨f, hf⟩ : ∃ f, b % 8388608 = f := ⟨_, rfl⟩
  rw [hee] at he e1 hV
  rw [hf] at e2 hV
  have hfl : f < 8388608 := by omega
  have hel : e < 256 := by omega
  have hwe : IntKind.i64.wrap (e : Int) = (e : Int) := IntWalk.i64_in _ (by omega)
  obtain ⟨sv, hsv⟩ : ∃ v : Nat, s * 9223372036854775808 = v := ⟨_, rfl⟩
  have hsm : (s : Int) * 9223372036854775808 = (sv : Int) := by omega
  have hsw : IntKind.u64.wrap (sv : Int) = (sv : Int) := IntWalk.u64_in _ (by omega)
  subst he
  rw [if_pos rfl] at hV
  obtain ⟨fd, hfd⟩ : ∃ v : Nat, f * 536870912 = v := ⟨_, rfl⟩
  have hfm : (f : Int) * 536870912 = (fd : Int) := by omega
  have hfw : IntKind.u64.wrap (fd : Int) = (fd : Int) := IntWalk.u64_in _ (by omega)
  obtain ⟨v1, hv1⟩ : ∃ v : Nat, sv + 9218868437227405312 = v := ⟨_, rfl⟩
  obtain ⟨v2, hv2⟩ : ∃ v : Nat, v1 + fd = v := ⟨_, rfl⟩
  have k1 : (s * 2048 + 2047) * 4503599627370496 = v1 := by rw [kk1, hsv, hv1]
  have HR := hid (show widV f32 b = v2 by rw [hV, kk3, hsv, hv1, hfd, hv2])
  have g2 := or_add (a := s * 2048 + 2047) (b := fd) (n := 52) (by omega) (by omega)
  have g1 := or_add (a := s) (b := 9218868437227405312) (n := 63) (by decide) (by omega)
  change bits .or .u64 ((s * 9223372036854775808 : Nat) : Int) 9218868437227405312 = ((s * 9223372036854775808 + 9218868437227405312 : Nat) : Int) at g1
  rw [hsv, hv1] at g1
  change bits .or .u64 (((s * 2048 + 2047) * 4503599627370496 : Nat) : Int) (fd : Int) = (((s * 2048 + 2047) * 4503599627370496 + fd : Nat) : Int) at g2
  rw [k1, hv2] at g2
  clear hV hv1 hv2 hfd k1 hsv hf hee hq hs hfl hel hs2 hb hb2
  go_enter Tryz.func72, Tryz.ntmps72
  go_wp2_with fail
  refine (hiw _).mono ?_
  rintro e w1 ⟨rfl, rfl⟩
  go_wp2_with fail
  refine (hsz _).mono ?_
  rintro e w2 ⟨rfl, rfl⟩
  go_wp2
  go_quiet (fail)
  go_wp2
  go_ret2
  exact ⟨by rw [HR.out] <;> rfl, belowN (Below.refl _ _) _⟩

set_option maxRecDepth 100000 in
set_option maxHeartbeats 4000000 in
theorem rwiden32_zero (b : Nat) (hb2 : b < 4294967296) (he : b / 8388608 % 256 = 0) (hf0 : b % 8388608 = 0) (w : World) :
    Calls Tryz.prog 72 #[.int .u64 b, .int .i64 32] w fun e w' => e = .returned (.tuple #[.int .u64 (widV f32 b : Nat), .int .i64 0]) ∧ Below w.heap.size w w' := by
  have hb : b < 18446744073709551616 := by omega
  have hiw := fun W => rIsWidth_calls 32 W
  change ∀ W, Calls _ _ _ _ fun e w' => e = .returned (.bool true) ∧ _ at hiw
  have hsz := rsizes32
  have hV : widV f32 b = widV f32 b := rfl
  conv at hV => rhs; unfold widV
  change widV f32 b = (if b / 8388608 % 256 = 255 then b / 2147483648 * C64 + 2047 * A64 + b % 8388608 * 536870912 else if b / 8388608 % 256 = 0 then (if b % 8388608 = 0 then b / 2147483648 * C64 else b / 2147483648 * C64 + (1024 - 127 - up f32 (b % 8388608)) * A64 + (b % 8388608 * 2 ^ up f32 (b % 8388608) - 8388608) * 536870912) else b / 2147483648 * C64 + (b / 8388608 % 256 + 1023 - 127) * A64 + b % 8388608 * 536870912) at hV
  have hq0 : (b : Int) / 4294967296 = 0 := by omega
  obtain ⟨s, hs⟩ : ∃ s, b / 2147483648 = s := ⟨_, rfl⟩
  have hsd : (b : Int) / 2147483648 = (s : Int) := by omega
  have hs2 : s < 2 := by omega
  obtain ⟨q, hq⟩ : ∃ q, b / 8388608 = q := ⟨_, rfl⟩
  have hqd : (b : Int) / 8388608 = (q : Int) := by omega
  have e1 := and_mask (x := q) (n := 8) (by omega) 255 (by decide) (by decide)
  have e2 := and_mask (x := b) (n := 23) hb (8388608 - 1) (by decide) (by decide)
  change _ = ((q % 256 : Nat) : Int) at e1
  change bits .and .u64 (b : Int) (8388607 : Int) = ((b % 8388608 : Nat) : Int) at e2
  rw [hq] at he hV
  rw [hs] at hV
  obtain ⟨e, hee⟩ : ∃ e, q % 256 = e := ⟨_, rfl⟩
  obtain ⟨f, hf⟩ : ∃ f, b % 8388608 = f := ⟨_, rfl⟩
  rw [hee] at he e1 hV
  rw [hf] at e2 hV
  have hfl : f < 8388608 := by omega
  have hel : e < 256 := by omega
  have hwe : IntKind.i64.wrap (e : Int) = (e : Int) := IntWalk.i64_in _ (by omega)
  obtain ⟨sv, hsv⟩ : ∃ v : Nat, s * 9223372036854775808 = v := ⟨_, rfl⟩
  have hsm : (s : Int) * 9223372036854775808 = (sv : Int) := by omega
  have hsw : IntKind.u64.wrap (sv : Int) = (sv : Int) := IntWalk.u64_in _ (by omega)
  rw [hf] at hf0
  subst he
  subst hf0
  rw [if_neg (by decide), if_pos rfl, if_pos rfl] at hV
  change bits .and .u64 (q : Int) 255 = 0 at e1
  change bits .and .u64 (b : Int) 8388607 = 0 at e2
  have HR := hid (show widV f32 b = sv by rw [hV]; unfold C64; omega)
  clear hV hsv hf hee hq hs hfl hel hs2 hb hb2 hwe
  go_enter Tryz.func72, Tryz.ntmps72
  go_wp2_with fail
  refine (hiw _).mono ?_
  rintro e w1 ⟨rfl, rfl⟩
  go_wp2_with fail
  refine (hsz _).mono ?_
  rintro e w2 ⟨rfl, rfl⟩
  go_wp2
  go_quiet (fail)
  go_wp2
  go_ret2
  exact ⟨by rw [HR.out] <;> rfl, belowN (Below.refl _ _) _⟩

set_option maxRecDepth 100000 in
set_option maxHeartbeats 4000000 in
theorem rwiden32_main (b : Nat) (hb2 : b < 4294967296) (he : b / 8388608 % 256 ≠ 0 ∧ b / 8388608 % 256 ≠ 255) (w : World) :
    Calls Tryz.prog 72 #[.int .u64 b, .int .i64 32] w fun e w' => e = .returned (.tuple #[.int .u64 (widV f32 b : Nat), .int .i64 0]) ∧ Below w.heap.size w w' := by
  have hb : b < 18446744073709551616 := by omega
  have hiw := fun W => rIsWidth_calls 32 W
  change ∀ W, Calls _ _ _ _ fun e w' => e = .returned (.bool true) ∧ _ at hiw
  have hsz := rsizes32
  have hV : widV f32 b = widV f32 b := rfl
  conv at hV => rhs; unfold widV
  change widV f32 b = (if b / 8388608 % 256 = 255 then b / 2147483648 * C64 + 2047 * A64 + b % 8388608 * 536870912 else if b / 8388608 % 256 = 0 then (if b % 8388608 = 0 then b / 2147483648 * C64 else b / 2147483648 * C64 + (1024 - 127 - up f32 (b % 8388608)) * A64 + (b % 8388608 * 2 ^ up f32 (b % 8388608) - 8388608) * 536870912) else b / 2147483648 * C64 + (b / 8388608 % 256 + 1023 - 127) * A64 + b % 8388608 * 536870912) at hV
  have hq0 : (b : Int) / 4294967296 = 0 := by omega
  obtain ⟨s, hs⟩ : ∃ s, b / 2147483648 = s := ⟨_, rfl⟩
  have hsd : (b : Int) / 2147483648 = (s : Int) := by omega
  have hs2 : s < 2 := by omega
  obtain ⟨q, hq⟩ : ∃ q, b / 8388608 = q := ⟨_, rfl⟩
  have hqd : (b : Int) / 8388608 = (q : Int) := by omega
  have e1 := and_mask (x := q) (n := 8) (by omega) 255 (by decide) (by decide)
  have e2 := and_mask (x := b) (n := 23) hb (8388608 - 1) (by decide) (by decide)
  change _ = ((q % 256 : Nat) : Int) at e1
  change bits .and .u64 (b : Int) (8388607 : Int) = ((b % 8388608 : Nat) : Int) at e2
  rw [hq] at he hV
  rw [hs] at hV
  obtain ⟨e, hee⟩ : ∃ e, q % 256 = e := ⟨_, rfl⟩
  obtain ⟨f, hf⟩ : ∃ f, b % 8388608 = f := ⟨_, rfl⟩
  rw [hee] at he e1 hV
  rw [hf] at e2 hV
  have hfl : f < 8388608 := by omega
  have hel : e < 256 := by omega
  have hwe : IntKind.i64.wrap (e : Int) = (e : Int) := IntWalk.i64_in _ (by omega)
  obtain ⟨sv, hsv⟩ : ∃ v : Nat, s * 9223372036854775808 = v := ⟨_, rfl⟩
  have hsm : (s : Int) * 9223372036854775808 = (sv : Int) := by omega
  have hsw : IntKind.u64.wrap (sv : Int) = (sv : Int) := IntWalk.u64_in _ (by omega)
  rw [if_neg he.2, if_neg he.1] at hV
  have he1 : ((e : Int) == 255) = false := by rw [beq_eq_false_iff_ne]; omega
  have he2 : ((e : Int) == 0) = false := by rw [beq_eq_false_iff_ne]; omega
  obtain ⟨E, hE⟩ : ∃ v : Nat, e + 1023 - 127 = v := ⟨_, rfl⟩
  rw [hE] at hV
  obtain ⟨y1, hy1⟩ : ∃ y : Int, (e : Int) - 127 = y := ⟨_, rfl⟩
  have hy2 : y1 + 1023 = (E : Int) := by omega
  have hyw1 : IntKind.i64.wrap y1 = y1 := IntWalk.i64_in _ (by omega)
  have hyw2 : IntKind.i64.wrap (E : Int) = (E : Int) := IntWalk.i64_in _ (by omega)
  have hyw3 : IntKind.u64.wrap (E : Int) = (E : Int) := IntWalk.u64_in _ (by omega)
  obtain ⟨ev, hev⟩ : ∃ v : Nat, E * 4503599627370496 = v := ⟨_, rfl⟩
  have hem : (E : Int) * 4503599627370496 = (ev : Int) := by omega
  have hew : IntKind.u64.wrap (ev : Int) = (ev : Int) := IntWalk.u64_in _ (by omega)
  obtain ⟨fd, hfd⟩ : ∃ v : Nat, f * 536870912 = v := ⟨_, rfl⟩
  have hfm : (f : Int) * 536870912 = (fd : Int) := by omega
  have hfw : IntKind.u64.wrap (fd : Int) = (fd : Int) := IntWalk.u64_in _ (by omega)
  obtain ⟨v1, hv1⟩ : ∃ v : Nat, sv + ev = v := ⟨_, rfl⟩
  obtain ⟨v2, hv2⟩ : ∃ v : Nat, v1 + fd = v := ⟨_, rfl⟩
  have k1 : (s * 2048 + E) * 4503599627370496 = v1 := by rw [kk2, hsv, hev, hv1]
  have HR := hid (show widV f32 b = v2 by rw [hV, kk4, hsv, hev, hv1, hfd, hv2])
  have g2 := or_add (a := s * 2048 + E) (b := fd) (n := 52) (by omega) (by omega)
  have g1 := or_add (a := s) (b := ev) (n := 63) (by omega) (by omega)
  change bits .or .u64 ((s * 9223372036854775808 : Nat) : Int) (ev : Int) = ((s * 9223372036854775808 + ev : Nat) : Int) at g1
  rw [hsv, hv1] at g1
  change bits .or .u64 (((s * 2048 + E) * 4503599627370496 : Nat) : Int) (fd : Int) = (((s * 2048 + E) * 4503599627370496 + fd : Nat) : Int) at g2
  rw [k1, hv2] at g2
  clear hV hv1 hv2 hfd k1 hsv hf hee hq hs hfl hel hs2 hb hb2 hev hE he
  go_enter Tryz.func72, Tryz.ntmps72
  go_wp2_with fail
  refine (hiw _).mono ?_
  rintro e w1 ⟨rfl, rfl⟩
  go_wp2_with fail
  refine (hsz _).mono ?_
  rintro e w2 ⟨rfl, rfl⟩
  go_wp2
  go_quiet (fail)
  go_wp2
  go_ret2
  exact ⟨by rw [HR.out] <;> rfl, belowN (Below.refl _ _) _⟩

set_option maxRecDepth 100000 in
set_option maxHeartbeats 4000000 in
theorem rwiden32_sub (b : Nat) (hb2 : b < 4294967296) (he : b / 8388608 % 256 = 0) (hf0 : b % 8388608 ≠ 0) (w : World) :
    Calls Tryz.prog 72 #[.int .u64 b, .int .i64 32] w fun e w' => e = .returned (.tuple #[.int .u64 (widV f32 b : Nat), .int .i64 0]) ∧ Below w.heap.size w w' := by
  have hb : b < 18446744073709551616 := by omega
  have hiw := fun W => rIsWidth_calls 32 W
  change ∀ W, Calls _ _ _ _ fun e w' => e = .returned (.bool true) ∧ _ at hiw
  have hsz := rsizes32
  have hV : widV f32 b = widV f32 b := rfl
  conv at hV => rhs; unfold widV
  change widV f32 b = (if b / 8388608 % 256 = 255 then b / 2147483648 * C64 + 2047 * A64 + b % 8388608 * 536870912 else if b / 8388608 % 256 = 0 then (if b % 8388608 = 0 then b / 2147483648 * C64 else b / 2147483648 * C64 + (1024 - 127 - up f32 (b % 8388608)) * A64 + (b % 8388608 * 2 ^ up f32 (b % 8388608) - 8388608) * 536870912) else b / 2147483648 * C64 + (b / 8388608 % 256 + 1023 - 127) * A64 + b % 8388608 * 536870912) at hV
  have hq0 : (b : Int) / 4294967296 = 0 := by omega
  obtain ⟨s, hs⟩ : ∃ s, b / 2147483648 = s := ⟨_, rfl⟩
  have hsd : (b : Int) / 2147483648 = (s : Int) := by omega
  have hs2 : s < 2 := by omega
  obtain ⟨q, hq⟩ : ∃ q, b / 8388608 = q := ⟨_, rfl⟩
  have hqd : (b : Int) / 8388608 = (q : Int) := by omega
  have e1 := and_mask (x := q) (n := 8) (by omega) 255 (by decide) (by decide)
  have e2 := and_mask (x := b) (n := 23) hb (8388608 - 1) (by decide) (by decide)
  change _ = ((q % 256 : Nat) : Int) at e1
  change bits .and .u64 (b : Int) (8388607 : Int) = ((b % 8388608 : Nat) : Int) at e2
  rw [hq] at he hV
  rw [hs] at hV
  obtain ⟨e, hee⟩ : ∃ e, q % 256 = e := ⟨_, rfl⟩
  obtain ⟨f, hf⟩ : ∃ f, b % 8388608 = f := ⟨_, rfl⟩
  rw [hee] at he e1 hV
  rw [hf] at e2 hV
  have hfl : f < 8388608 := by omega
  have hel : e < 256 := by omega
  have hwe : IntKind.i64.wrap (e : Int) = (e : Int) := IntWalk.i64_in _ (by omega)
  obtain ⟨sv, hsv⟩ : ∃ v : Nat, s * 9223372036854775808 = v := ⟨_, rfl⟩
  have hsm : (s : Int) * 9223372036854775808 = (sv : Int) := by omega
  have hsw : IntKind.u64.wrap (sv : Int) = (sv : Int) := IntWalk.u64_in _ (by omega)
  rw [hf] at hf0
  subst he
  rw [if_neg (by decide), if_pos rfl, if_neg hf0] at hV
  change bits .and .u64 (q : Int) 255 = 0 at e1
  obtain ⟨u1, u2, u3, u4⟩ := up_spec f32 (by first | exact .inl rfl | exact .inr rfl) hf0 hfl
  change up f32 f ≤ 23 at u2
  change 8388608 ≤ f * 2 ^ up f32 f at u3
  change f * 2 ^ up f32 f < 2 * 8388608 at u4
  obtain ⟨U, hUe⟩ : ∃ U, up f32 f = U := ⟨_, rfl⟩
  rw [hUe] at u1 u2 u3 u4 hV
  have hf0b : ((f : Int) == 0) = false := by rw [beq_eq_false_iff_ne]; omega
  obtain ⟨Y, hY⟩ : ∃ v : Nat, f * 2 ^ U = v := ⟨_, rfl⟩
  have hstep : ∀ j, j < U → f * 2 ^ j < 8388608 := by
    intro j hj
    have h1 : f * 2 ^ (j + 1) ≤ f * 2 ^ U := Nat.mul_le_mul_left _ (pow_le hj)
    rw [Nat.pow_succ, ← Nat.mul_assoc] at h1
    omega
  rw [hY] at u3 u4 hV
  obtain ⟨g, hg⟩ : ∃ v : Nat, Y - 8388608 = v := ⟨_, rfl⟩
  have hgi : (Y : Int) - 8388608 = (g : Int) := by omega
  have hgw : IntKind.u64.wrap (g : Int) = (g : Int) := IntWalk.u64_in _ (by omega)
  rw [hg] at hV
  obtain ⟨E, hE⟩ : ∃ v : Nat, 1024 - 127 - U = v := ⟨_, rfl⟩
  rw [hE] at hV
  obtain ⟨ye, hye⟩ : ∃ y : Int, 1 - (U : Int) = y := ⟨_, rfl⟩
  obtain ⟨y1, hy1⟩ : ∃ y : Int, ye - 127 = y := ⟨_, rfl⟩
  have hy2 : y1 + 1023 = (E : Int) := by omega
  have hyw1 : IntKind.i64.wrap y1 = y1 := IntWalk.i64_in _ (by omega)
  have hyw2 : IntKind.i64.wrap (E : Int) = (E : Int) := IntWalk.i64_in _ (by omega)
  have hyw3 : IntKind.u64.wrap (E : Int) = (E : Int) := IntWalk.u64_in _ (by omega)
  obtain ⟨ev, hev⟩ : ∃ v : Nat, E * 4503599627370496 = v := ⟨_, rfl⟩
  have hem : (E : Int) * 4503599627370496 = (ev : Int) := by omega
  have hew : IntKind.u64.wrap (ev : Int) = (ev : Int) := IntWalk.u64_in _ (by omega)
  obtain ⟨fd, hfd⟩ : ∃ v : Nat, g * 536870912 = v := ⟨_, rfl⟩
  have hfm : (g : Int) * 536870912 = (fd : Int) := by omega
  have hfw : IntKind.u64.wrap (fd : Int) = (fd : Int) := IntWalk.u64_in _ (by omega)
  obtain ⟨v1, hv1⟩ : ∃ v : Nat, sv + ev = v := ⟨_, rfl⟩
  obtain ⟨v2, hv2⟩ : ∃ v : Nat, v1 + fd = v := ⟨_, rfl⟩
  have k1 : (s * 2048 + E) * 4503599627370496 = v1 := by rw [kk2, hsv, hev, hv1]
  have HR := hid (show widV f32 b = v2 by rw [hV, kk4, hsv, hev, hv1, hfd, hv2])
  have g2 := or_add (a := s * 2048 + E) (b := fd) (n := 52) (by omega) (by omega)
  have g1 := or_add (a := s) (b := ev) (n := 63) (by omega) (by omega)
  change bits .or .u64 ((s * 9223372036854775808 : Nat) : Int) (ev : Int) = ((s * 9223372036854775808 + ev : Nat) : Int) at g1
  rw [hsv, hv1] at g1
  change bits .or .u64 (((s * 2048 + E) * 4503599627370496 : Nat) : Int) (fd : Int) = (((s * 2048 + E) * 4503599627370496 + fd : Nat) : Int) at g2
  rw [k1, hv2] at g2
  have HP := hid (And.intro hstep (And.intro u3 (And.intro u4 (And.intro hY u2))))
  have HU := hid hye
  clear hV hv1 hv2 hfd k1 hsv hf hee hq hs hel hs2 hb hb2 hev hE u1 u2 u3 u4 hg hY hUe hstep hye hwe hf0 hfl
  go_enter Tryz.func72, Tryz.ntmps72
  go_wp2_with fail
  refine (hiw _).mono ?_
  rintro e w1 ⟨rfl, rfl⟩
  go_wp2_with fail
  refine (hsz _).mono ?_
  rintro e w2 ⟨rfl, rfl⟩
  go_wp2
  go_quiet (fail)
  go_wp2
  have hWq : Below w.heap.size w (w.drewN nq) := belowN (Below.refl _ _) nq
  generalize w.drewN nq = Z1 at *
  go_loopw [9, 10] (fun v1 v2 wq => ∃ (j : Nat), j ≤ U ∧ v1 = .int .i64 (1 - (j : Int)) ∧ v2 = .int .u64 (f * 2 ^ j : Nat) ∧ Below w.heap.size w wq) (fun v1 _ _ => U - (1 - intOf v1).toNat)
  case atStart => exact ⟨0, Nat.zero_le _, rfl, by rw [Nat.pow_zero, Nat.mul_one], hWq⟩
  case round =>
    obtain ⟨j, hj, rfl, rfl, hB⟩ := hrel
    obtain ⟨hstep, u3, u4, hY, u2⟩ := HP.out
    obtain ⟨X, hX⟩ : ∃ v, f * 2 ^ j = v := ⟨_, rfl⟩
    by_cases hlt : X < 8388608
    · have hjU : j < U := by
        rcases Nat.lt_or_ge j U with h | h
        · exact h
        · obtain rfl : j = U := by omega
          omega
      have hX0 : (X : Int) / 8388608 = 0 := by omega
      obtain ⟨X2, hX2⟩ : ∃ v, f * 2 ^ (j + 1) = v := ⟨_, rfl⟩
      have hXX : 2 * (X : Int) = (X2 : Int) := by rw [← hX2, Nat.pow_succ, ← Nat.mul_assoc, hX]; omega
      have hXw : IntKind.u64.wrap (X2 : Int) = (X2 : Int) := IntWalk.u64_in _ (by omega)
      obtain ⟨a1, ha1⟩ : ∃ y : Int, 1 - (j : Int) = y := ⟨_, rfl⟩
      obtain ⟨a2, ha2⟩ : ∃ y : Int, a1 - 1 = y := ⟨_, rfl⟩
      have haw : IntKind.i64.wrap a2 = a2 := IntWalk.i64_in _ (by omega)
      rw [hX, ha1]
      have HX := hid (And.intro hX2 (And.intro hjU (And.intro ha1 ha2)))
      clear hX hX2 hlt hstep u3 u4 hY u2 hj hjU ha1
      go_wp2
      go_roundw
      case rel =>
        obtain ⟨k1, k2, k3, k4⟩ := HX.out
        refine ⟨j + 1, k2, ?_, by rw [k1], hB⟩
        congr 1
        omega
      case measure =>
        obtain ⟨k1, k2, k3, k4⟩ := HX.out
        simp [intOf]; omega
    · have hjU : j = U := by
        rcases Nat.lt_or_ge j U with h | h
        · exact absurd (hX ▸ hstep j h) hlt
        · omega
      subst hjU
      obtain rfl : X = Y := by rw [← hX, ← hY]
      obtain ⟨r, hr⟩ : ∃ r : Nat, X / 8388608 = r := ⟨_, rfl⟩
      have hri : (X : Int) / 8388608 = (r : Int) := by omega
      have hr0 : ((r : Int) == 0) = false := by rw [beq_eq_false_iff_ne]; omega
      rw [hX, HU.out]
      clear hX hlt hstep u3 u4 hY u2 hj hr HP
      go_wp2
      go_ret2
      exact ⟨by rw [HR.out] <;> rfl, hB⟩

theorem rWiden_calls (b : Nat) (_hb : b < 18446744073709551616) (x : Int) (w : World) :
    Calls Tryz.prog 72 #[.int .u64 b, .int .i64 x] w fun e w' => e = .returned (.tuple #[.int .u64 (widS b x : Nat), .int .i64 (widE b x)]) ∧ Below w.heap.size w w' := by
  cases hx : isW x with
  | false =>
    have h := rwiden_none b x hx w
    unfold isW at hx
    rw [Bool.or_eq_false_iff, Bool.or_eq_false_iff, decide_eq_false_iff_not, decide_eq_false_iff_not, decide_eq_false_iff_not] at hx
    have h1 : widS b x = 0 ∧ widE b x = 2 := by
      unfold widS widE fmOf
      rw [if_neg hx.2.2, if_neg hx.2.2, if_neg hx.1, if_neg hx.2.1]; exact ⟨rfl, rfl⟩
    rw [h1.1, h1.2]
    exact h
  | true =>
    rcases isW_cases hx with rfl | rfl | rfl
    · have s1 : widS b 16 = if b < 65536 then widV f16 b else 0 := rfl
      have s2 : widE b 16 = if b < 65536 then 0 else 2 := rfl
      by_cases h : b < 65536
      · rw [s1, s2, if_pos h, if_pos h]
        by_cases h1 : b / 1024 % 32 = 31
        · exact rwiden16_top b h h1 w
        · by_cases h2 : b / 1024 % 32 = 0
          · by_cases h3 : b % 1024 = 0
            · exact rwiden16_zero b h h2 h3 w
            · exact rwiden16_sub b h h2 h3 w
          · exact rwiden16_main b h ⟨h2, h1⟩ w
      · rw [s1, s2, if_neg h, if_neg h]; exact rwiden16_long b h w
    · have s1 : widS b 32 = if b < 4294967296 then widV f32 b else 0 := rfl
      have s2 : widE b 32 = if b < 4294967296 then 0 else 2 := rfl
      by_cases h : b < 4294967296
      · rw [s1, s2, if_pos h, if_pos h]
        by_cases h1 : b / 8388608 % 256 = 255
        · exact rwiden32_top b h h1 w
        · by_cases h2 : b / 8388608 % 256 = 0
          · by_cases h3 : b % 8388608 = 0
            · exact rwiden32_zero b h h2 h3 w
            · exact rwiden32_sub b h h2 h3 w
          · exact rwiden32_main b h ⟨h2, h1⟩ w
      · rw [s1, s2, if_neg h, if_neg h]; exact rwiden32_long b h w
    · exact rwiden_64 b w
end Go.Proofs.YtpjlepkdiaohiaaGreatDoor

