/- PZ: MqQ MqS. -/
import Derived.Test.YtpjlepkdiaohiaaGreatDoorPY
/- The statements' helper number of layer 14: walked. -/
namespace Go.Proofs.YtpjlepkdiaohiaaGreatDoor
open Go.RowKit
attribute [local go_sem] Oper.semAt_some

theorem shr8' (n j : Nat) : (n : Int) / 2 ^ (8 * j) % 256 = (((ch (n / 256 ^ j)).toNat : Nat) : Int) := by
  have h : (2 : Nat) ^ (8 * j) = 256 ^ j := by rw [Nat.pow_mul]
  rw [show (2 : Int) ^ (8 * j) = ((2 ^ (8 * j) : Nat) : Int) by rw [Int.natCast_pow]; rfl, h]
  unfold ch
  rw [UInt8.toNat_ofNat']
  omega

/-- one byte's text. -/
def o14 (c : UInt8) : ByteArray := ⟨#[c]⟩
theorem tx_o14 (c : UInt8) (q : ByteArray) : tx (o14 c ++ q) = c :: tx q := by rw [tx_cat]; rfl
theorem cv14 (c : UInt8) (z : Int) (hz : z = (c.toNat : Nat)) (W : World) : (convert 41 9 (.slice (some ⟨W.heap.size, 0, none⟩) 1 1)).run Tryz.prog (W.alloc (.cells #[.int .u8 z] 5)) = .ok (.string (o14 c)) (W.alloc (.cells #[.int .u8 z] 5)) := by
  have h := Cls.new W 5 [.int .u8 z]
  exact run_convert_bytes_back (P := Tryz.prog) (W.alloc (.cells #[.int .u8 z] 5)) 41 9 5 ⟨W.heap.size, 0, none⟩ 1 [c] Tryz.underlying41 Tryz.underlying5 Tryz.underlying9 (fun j hj => by
    obtain rfl : j = 0 := by simpa using hj
    rw [Lib.add_plain]
    subst hz
    exact h.cell 0 (v := .int .u8 (c.toNat : Nat)) rfl)
theorem o14_size (c : UInt8) : (o14 c).size = 1 := rfl

set_option maxRecDepth 100000 in
set_option maxHeartbeats 4000000 in
theorem num14_calls (n z : Nat) (_hn : n < 18446744073709551616) (hz : z ≤ 8) (w : World) :
    Calls Tryz.prog 28 #[.int .u64 n, .int .i64 z] w fun e w' => e = .returned (.string (B (beL z n))) ∧ Below w.heap.size w w' := by
  have hb0 := Below.refl w.heap.size w
  have HB := hid hb0
  clear hb0
  go_enter Tryz.func28, Tryz.ntmps28
  go_wp2
  go_loopw [5, 6] (fun v5 v6 wr => ∃ i : Nat, i ≤ z ∧ v5 = .string (B (beL i n)) ∧ v6 = .int .i64 i ∧ Below w.heap.size w wr) (fun _ v6 _ => z - (intOf v6).toNat)
  case atStart => exact ⟨0, Nat.zero_le _, rfl, rfl, HB.out⟩
  case round =>
    obtain ⟨i, hi, rfl, rfl, hb⟩ := hrel
    by_cases hiz : i < z
    · have hlz : (i : Int) < z := by omega
      have h8 : wrap64 (8 * (i : Int)) = ((8 * i : Nat) : Int) := by unfold wrap64; omega
      have h64 : (8 * i : Nat) < 64 := by omega
      have hsz : (B (beL i n)).size = i := by rw [size_B, beL_len]
      have hcv := cv14 (ch (n / 256 ^ i)) ((n : Int) / 2 ^ (8 * i) % 256) (shr8' n i) wr
      obtain ⟨Q, hQ⟩ : ∃ Q, B (beL i n) = Q := ⟨_, rfl⟩
      obtain ⟨O, hO⟩ : ∃ O, o14 (ch (n / 256 ^ i)) = O := ⟨_, rfl⟩
      have hOs : O.size = 1 := by rw [← hO]; rfl
      rw [hQ] at hsz ⊢
      rw [hO] at hcv
      have hcat : ¬ 9223372036854775807 < O.size + Q.size := by omega
      have HC := hid (And.intro hb (And.intro hQ hO))
      clear hb hQ hO hsz hOs
      go_wp2
      go_roundw
      case rel =>
        obtain ⟨hb, hQ, hO⟩ := HC.out
        refine ⟨i + 1, hiz, ?_, by simp, hb.alloc hb.size _⟩
        rw [← hQ, ← hO, tx_inj (a := o14 (ch (n / 256 ^ i)) ++ B (beL i n)) (b := B (beL (i + 1) n)) (by rw [tx_o14, tx_B, tx_B]; rfl)]
      case measure => simp [intOf]; omega
    · obtain rfl : i = z := Nat.le_antisymm hi (Nat.le_of_not_lt hiz)
      have hlz : decide (i < i) = false := by simp
      go_wp2
      go_ret
      exact ⟨rfl, hb⟩
end Go.Proofs.YtpjlepkdiaohiaaGreatDoor

/- Leaves that are read, and are the same. -/
namespace Go.Proofs.YtpjlepkdiaohiaaGreatDoor
open Go.RowKit

theorem tx_c1 (c : UInt8) (l : List UInt8) : tx (⟨#[c]⟩ ++ B l) = c :: l := by rw [tx_cat, tx_B]; rfl
theorem tx_nil {q : ByteArray} (h : tx q = []) : q = ⟨#[]⟩ := by rw [← B_tx q, h]; rfl

/-- a leaf that is read. -/
theorem leaf_item (P : ByteArray) (hP : P.size ≤ 1000000) (p : Pay) (q : ByteArray) (hx : rd 16 (tx P) = .ok (.nd p []) (tx q)) (w : World) {ea eb : Addr} (hT : TabQ w ea eb) :
    Calls Tryz.prog 27 #[.string P] w fun e w' => Below w.heap.size w w' ∧ ∃ a c, e = .returned (.tuple #[ndV p (.slice a 0 c), .string q, .int .i64 0]) := by
  refine (item_calls P hP w hT).mono ?_
  rintro e w1 ⟨hb, ⟨t, q', a, n, c, hx', rfl, hB⟩ | ⟨i, hx', -⟩⟩
  case inr => rw [hx] at hx'; cases hx'
  rw [hx] at hx'
  injection hx' with h1 h2
  obtain rfl := tx_inj h2
  subst h1
  obtain ⟨l', a', n', c', f', g1, g2, g3, -⟩ := InT.inv hB.toT
  obtain rfl : l' = [] := (Tr.nd.inj g1).2.symm
  injection g2 with i1 i2 i3
  exact ⟨hb, a, c, by rw [i2, g3]; rfl⟩
/-- leaves that are the same. -/
theorem leaf_same (p : Pay) (hp : p.fine) (a b : Option Addr) (c d : Nat) (W : World) :
    Calls Tryz.prog 18 #[ndV p (.slice a 0 c), ndV p (.slice b 0 d)] W fun e w' => e = .returned (.bool true) ∧ Below W.heap.size W w' := by
  have h := rsame_calls (.nd p []) (fine_leaf hp) (.nd p []) (.slice a 0 c) (.slice b 0 d) W (InT.leaf W p c a) (InT.leaf W p d b)
  rw [same_self] at h
  exact h
end Go.Proofs.YtpjlepkdiaohiaaGreatDoor

