/- Plain: floating numbers by their bits: widened, narrowed. -/
import Derived.Lib.BitFns
import Derived.Lib.ItoaNum
import Derived.Test.YtfobaeoccpebeaaGreatDoorMB
import Derived.Lib.TrailingZeros
namespace Go.Proofs.YtfobaeoccpebeaaGreatDoor
open Go

/-- a width below 64: how many digits a fraction has, and what the parts are divided by. -/
structure Fm where
  p : Nat
  A : Nat
  B : Nat
  C : Nat
  D : Nat
  bias : Nat
def f16 : Fm := ⟨10, 1024, 32, 32768, 4398046511104, 15⟩
def f32 : Fm := ⟨23, 8388608, 256, 2147483648, 536870912, 127⟩
def A64 : Nat := 4503599627370496
def C64 : Nat := 9223372036854775808
def Fm.ok (m : Fm) : Prop := m = f16 ∨ m = f32
def up (m : Fm) (f : Nat) : Nat := m.p + 1 - Lib.bitLen f
/-- what is widened. -/
def widV (m : Fm) (b : Nat) : Nat :=
  if b / m.A % m.B = m.B - 1 then b / m.C * C64 + 2047 * A64 + b % m.A * m.D
  else if b / m.A % m.B = 0 then
    (if b % m.A = 0 then b / m.C * C64
     else b / m.C * C64 + (1024 - m.bias - up m (b % m.A)) * A64 + (b % m.A * 2 ^ up m (b % m.A) - m.A) * m.D)
  else b / m.C * C64 + (b / m.A % m.B + 1023 - m.bias) * A64 + b % m.A * m.D
/-- what is narrowed. -/
def narV (m : Fm) (x : Nat) : Option Nat :=
  let s := x / C64
  let E := x / A64 % 2048
  let F := x % A64
  if E = 2047 then (if F % m.D = 0 then some (s * m.C + (m.B - 1) * m.A + F / m.D) else none)
  else if E = 0 ∧ F = 0 then some (s * m.C)
  else if 1023 < E + m.bias ∧ E + m.bias < 1023 + m.B - 1 then (if F % m.D = 0 then some (s * m.C + (E + m.bias - 1023) * m.A + F / m.D) else none)
  else if 0 < E ∧ E + m.bias ≤ 1023 ∧ 1023 < E + m.bias + m.p then
    (if (F + A64) % (m.D * 2 ^ (1024 - m.bias - E)) = 0 then some (s * m.C + (F + A64) / (m.D * 2 ^ (1024 - m.bias - E))) else none)
  else none

theorem len_bounds {f : Nat} (h0 : f ≠ 0) (h : f < 18446744073709551616) : 1 ≤ Lib.bitLen f ∧ 2 ^ (Lib.bitLen f - 1) ≤ f ∧ f < 2 ^ Lib.bitLen f :=
  Lib.bitLenAux_bounds 64 f h h0
theorem pow_le {a b : Nat} (h : a ≤ b) : (2 : Nat) ^ a ≤ 2 ^ b := Nat.pow_le_pow_right (by omega) h
/-- a small fraction, moved up to where it begins with a digit 1. -/
theorem up_spec (m : Fm) (hm : m.ok) {f : Nat} (h0 : f ≠ 0) (hf : f < m.A) : 1 ≤ up m f ∧ up m f ≤ m.p ∧ m.A ≤ f * 2 ^ up m f ∧ f * 2 ^ up m f < 2 * m.A := by
  have hA : m.A = 2 ^ m.p ∧ m.p ≤ 23 := by rcases hm with rfl | rfl <;> exact ⟨by decide, by decide⟩
  have hl := len_bounds h0 (by have := pow_le hA.2; omega)
  have hL : Lib.bitLen f ≤ m.p := by
    rcases Nat.lt_or_ge m.p (Lib.bitLen f) with h | h
    · have := pow_le (show m.p ≤ Lib.bitLen f - 1 by omega); omega
    · exact h
  unfold up
  have e1 : 2 ^ (Lib.bitLen f - 1) * 2 ^ (m.p + 1 - Lib.bitLen f) = 2 ^ m.p := by rw [← Nat.pow_add]; congr 1; omega
  have e2 : 2 ^ Lib.bitLen f * 2 ^ (m.p + 1 - Lib.bitLen f) = 2 * 2 ^ m.p := by rw [← Nat.pow_add, Nat.mul_comm 2, ← Nat.pow_succ]; congr 1; omega
  refine ⟨by omega, by omega, ?_, ?_⟩
  · rw [hA.1, ← e1]; exact Nat.mul_le_mul_right _ hl.2.1
  · rw [hA.1, ← e2]; exact Nat.mul_lt_mul_of_pos_right hl.2.2 (Nat.pow_pos (by omega))
theorem up_uniq (m : Fm) (hm : m.ok) {f u : Nat} (hu : u ≤ m.p + 1) (h1 : m.A ≤ f * 2 ^ u) (h2 : f * 2 ^ u < 2 * m.A) (hf : f < m.A) : up m f = u := by
  have hA : m.A = 2 ^ m.p ∧ m.p ≤ 23 ∧ 0 < m.A := by rcases hm with rfl | rfl <;> exact ⟨by decide, by decide, by decide⟩
  have h0 : f ≠ 0 := by rintro rfl; omega
  obtain ⟨g1, g2, g3, g4⟩ := up_spec m hm h0 hf
  rcases Nat.lt_trichotomy (up m f) u with h | h | h
  · have e : f * 2 ^ u = f * 2 ^ up m f * 2 ^ (u - up m f) := by rw [Nat.mul_assoc, ← Nat.pow_add]; congr 2; omega
    have := pow_le (show 1 ≤ u - up m f by omega)
    have : f * 2 ^ up m f * 2 ≤ f * 2 ^ up m f * 2 ^ (u - up m f) := Nat.mul_le_mul_left _ this
    omega
  · exact h
  · have e : f * 2 ^ up m f = f * 2 ^ u * 2 ^ (up m f - u) := by rw [Nat.mul_assoc, ← Nat.pow_add]; congr 2; omega
    have := pow_le (show 1 ≤ up m f - u by omega)
    have : f * 2 ^ u * 2 ≤ f * 2 ^ u * 2 ^ (up m f - u) := Nat.mul_le_mul_left _ this
    omega

/-- the parts of what is joined. -/
theorem parts64 {s e f : Nat} (he : e < 2048) (hf : f < A64) : (s * C64 + e * A64 + f) / C64 = s ∧ (s * C64 + e * A64 + f) / A64 % 2048 = e ∧ (s * C64 + e * A64 + f) % A64 = f := by
  unfold A64 C64 at *
  refine ⟨?_, ?_, ?_⟩ <;> omega

theorem nar_wid (m : Fm) (hm : m.ok) (b : Nat) (hb : b < 2 * m.C) : narV m (widV m b) = some b := by
  have hcon : m.A * m.D = A64 ∧ 0 < m.D ∧ m.A * m.B = m.C ∧ m.bias ≤ 127 ∧ m.p ≤ 23 ∧ 1 < m.B ∧ m.B ≤ 256 ∧ 0 < m.A ∧ m.p + 1 ≤ 1024 - m.bias ∧ m.B = 2 * m.bias + 2 := by
    rcases hm with rfl | rfl <;> refine ⟨by decide, by decide, by decide, by decide, by decide, by decide, by decide, by decide, by decide, by decide⟩
  obtain ⟨c1, c2, c3, c4, c5, c6, c7, c8, c9, c10⟩ := hcon
  have hF : b % m.A < m.A := Nat.mod_lt _ c8
  have hE : b / m.A % m.B < m.B := Nat.mod_lt _ (by omega)
  have hsplit : b = b / m.C * m.C + b / m.A % m.B * m.A + b % m.A := by
    have h1 := Nat.div_add_mod b m.A
    have h2 := Nat.div_add_mod (b / m.A) m.B
    rw [Nat.div_div_eq_div_mul, c3] at h2
    have h3 : m.A * (m.B * (b / m.C) + b / m.A % m.B) = b / m.C * m.C + b / m.A % m.B * m.A := by
      rw [Nat.mul_add, ← Nat.mul_assoc, c3, Nat.mul_comm m.C, Nat.mul_comm m.A (b / m.A % m.B)]
    rw [← h2, h3] at h1
    exact h1.symm
  obtain ⟨s, hs⟩ : ∃ s, b / m.C = s := ⟨_, rfl⟩
  obtain ⟨e, he⟩ : ∃ e, b / m.A % m.B = e := ⟨_, rfl⟩
  obtain ⟨f, hf⟩ : ∃ f, b % m.A = f := ⟨_, rfl⟩
  unfold widV
  rw [hs, he, hf]
  rw [hs, he, hf] at hsplit
  rw [he] at hE
  rw [hf] at hF
  clear hs he hf
  have hfD : f * m.D < A64 := by rw [← c1]; exact Nat.mul_lt_mul_of_pos_right hF c2
  have hmod : f * m.D % m.D = 0 := Nat.mul_mod_left _ _
  have hdiv : f * m.D / m.D = f := Nat.mul_div_cancel _ c2
  by_cases h1 : e = m.B - 1
  · rw [if_pos h1]
    obtain ⟨p1, p2, p3⟩ := parts64 (s := s) (e := 2047) (f := f * m.D) (by omega) hfD
    unfold narV
    simp only [p1, p2, p3]
    rw [if_pos trivial, if_pos hmod, hdiv, ← h1, ← hsplit]
  · rw [if_neg h1]
    by_cases h2 : e = 0
    · rw [if_pos h2]
      by_cases h3 : f = 0
      · rw [if_pos h3]
        obtain ⟨p1, p2, p3⟩ := parts64 (s := s) (e := 0) (f := 0) (by omega) (by unfold A64; omega)
        simp only [Nat.zero_mul, Nat.add_zero] at p1 p2 p3
        unfold narV
        simp only [p1, p2, p3]
        rw [if_neg (by omega), if_pos ⟨trivial, trivial⟩]
        congr 1
        rw [hsplit, h2, h3]; omega
      · rw [if_neg h3]
        obtain ⟨u1, u2, u3, u4⟩ := up_spec m hm h3 hF
        obtain ⟨u, hu⟩ : ∃ u, up m f = u := ⟨_, rfl⟩
        obtain ⟨P, hP⟩ : ∃ P, 2 ^ u = P := ⟨_, rfl⟩
        rw [hu] at u1 u2 u3 u4 ⊢
        rw [hP] at u3 u4 ⊢
        obtain ⟨g, hg⟩ : ∃ g, f * P - m.A = g := ⟨_, rfl⟩
        have hfg : f * P = m.A + g := by omega
        have hgA : g < m.A := by omega
        have hgD : g * m.D < A64 := by rw [← c1]; exact Nat.mul_lt_mul_of_pos_right hgA c2
        rw [hg]
        obtain ⟨p1, p2, p3⟩ := parts64 (s := s) (e := 1024 - m.bias - u) (f := g * m.D) (by omega) hgD
        unfold narV
        simp only [p1, p2, p3]
        have hlow : 1024 - m.bias - (1024 - m.bias - u) = u := by omega
        have hnum : g * m.D + A64 = f * (m.D * P) := by
          rw [← c1, Nat.add_comm, ← Nat.add_mul, ← hfg, Nat.mul_assoc, Nat.mul_comm P]
        have hPp : 0 < m.D * P := Nat.mul_pos c2 (by rw [← hP]; exact Nat.pow_pos (Nat.zero_lt_two))
        rw [if_neg (by omega), if_neg (by omega), if_neg (by omega), if_pos ⟨by omega, by omega, by omega⟩, hlow, hP, hnum, if_pos (Nat.mul_mod_left _ _), Nat.mul_div_cancel _ hPp]
        congr 1
        rw [hsplit, h2]; omega
    · rw [if_neg h2]
      obtain ⟨p1, p2, p3⟩ := parts64 (s := s) (e := e + 1023 - m.bias) (f := f * m.D) (by omega) hfD
      unfold narV
      simp only [p1, p2, p3]
      rw [if_neg (by omega), if_neg (by omega), if_pos ⟨by omega, by omega⟩, if_pos hmod, hdiv]
      congr 1
      rw [show e + 1023 - m.bias + m.bias - 1023 = e by omega, ← hsplit]
theorem nar_lt (m : Fm) (hm : m.ok) {x b : Nat} (hx : x < 18446744073709551616) (h : narV m x = some b) : b < 2 * m.C ∧ widV m b = x := by
  have hcon : m.A * m.D = A64 ∧ 0 < m.D ∧ m.A * m.B = m.C ∧ m.bias ≤ 127 ∧ m.p ≤ 23 ∧ 1 < m.B ∧ m.B ≤ 256 ∧ 0 < m.A ∧ m.p + 1 ≤ 1024 - m.bias ∧ m.B = 2 * m.bias + 2 ∧ m.A = 2 ^ m.p := by
    rcases hm with rfl | rfl <;> refine ⟨by decide, by decide, by decide, by decide, by decide, by decide, by decide, by decide, by decide, by decide, by decide⟩
  obtain ⟨c1, c2, c3, c4, c5, c6, c7, c8, c9, c10, c11⟩ := hcon
  have hs2 : x / C64 < 2 := by unfold C64; omega
  have hF : x % A64 < A64 := Nat.mod_lt _ (by unfold A64; omega)
  have hE : x / A64 % 2048 < 2048 := Nat.mod_lt _ (by omega)
  have hsplit : x = x / C64 * C64 + x / A64 % 2048 * A64 + x % A64 := by unfold A64 C64; omega
  obtain ⟨s, hs⟩ : ∃ s, x / C64 = s := ⟨_, rfl⟩
  obtain ⟨E, he⟩ : ∃ E, x / A64 % 2048 = E := ⟨_, rfl⟩
  obtain ⟨F, hf⟩ : ∃ F, x % A64 = F := ⟨_, rfl⟩
  unfold narV at h
  simp only [hs, he, hf] at h
  rw [hs, he, hf] at hsplit
  rw [hs] at hs2
  rw [he] at hE
  rw [hf] at hF
  clear hs he hf
  -- the parts of a narrow number
  have parts : ∀ e f, e < m.B → f < m.A → (s * m.C + e * m.A + f) / m.C = s ∧ (s * m.C + e * m.A + f) / m.A % m.B = e ∧ (s * m.C + e * m.A + f) % m.A = f ∧ s * m.C + e * m.A + f < 2 * m.C := by
    intro e f h1 h2
    have h3 : e * m.A + f < m.C := by
      rw [← c3, Nat.mul_comm]
      have : m.A * e + m.A ≤ m.A * m.B := by rw [← Nat.mul_succ]; exact Nat.mul_le_mul_left _ h1
      omega
    have h4 : s * m.C + e * m.A + f = m.A * (m.B * s + e) + f := by rw [Nat.mul_add, ← Nat.mul_assoc, c3, Nat.mul_comm s, Nat.mul_comm e]
    refine ⟨?_, ?_, ?_, ?_⟩
    · rw [Nat.add_assoc, Nat.mul_comm, Nat.mul_add_div (by omega), Nat.div_eq_of_lt h3]; rfl
    · rw [h4, Nat.mul_add_div c8, Nat.div_eq_of_lt h2, Nat.add_zero, Nat.mul_add_mod, Nat.mod_eq_of_lt h1]
    · rw [h4, Nat.mul_add_mod, Nat.mod_eq_of_lt h2]
    · have : s * m.C ≤ 1 * m.C := Nat.mul_le_mul_right _ (by omega)
      omega
  have hdv : F % m.D = 0 → F / m.D * m.D = F := fun h0 => by
    have := Nat.div_add_mod F m.D
    rw [h0, Nat.add_zero, Nat.mul_comm] at this
    exact this
  have hfl : F / m.D < m.A := by rw [Nat.div_lt_iff_lt_mul c2, c1]; exact hF
  by_cases h1 : E = 2047
  · rw [if_pos h1] at h
    split at h
    · rename_i h0
      obtain rfl := Option.some.inj h
      obtain ⟨p1, p2, p3, p4⟩ := parts (m.B - 1) (F / m.D) (by omega) hfl
      refine ⟨p4, ?_⟩
      unfold widV
      rw [p1, p2, p3, if_pos rfl, hdv h0, ← h1, ← hsplit]
    · cases h
  · rw [if_neg h1] at h
    by_cases h2 : E = 0 ∧ F = 0
    · rw [if_pos h2] at h
      obtain rfl := Option.some.inj h
      obtain ⟨p1, p2, p3, p4⟩ := parts 0 0 (by omega) c8
      simp only [Nat.zero_mul, Nat.add_zero] at p1 p2 p3 p4
      refine ⟨p4, ?_⟩
      unfold widV
      rw [p1, p2, p3, if_neg (by omega), if_pos rfl, if_pos rfl, hsplit, h2.1, h2.2]; omega
    · rw [if_neg h2] at h
      by_cases h3 : 1023 < E + m.bias ∧ E + m.bias < 1023 + m.B - 1
      · rw [if_pos h3] at h
        split at h
        · rename_i h0
          obtain rfl := Option.some.inj h
          obtain ⟨p1, p2, p3, p4⟩ := parts (E + m.bias - 1023) (F / m.D) (by omega) hfl
          refine ⟨p4, ?_⟩
          unfold widV
          rw [p1, p2, p3, if_neg (by omega), if_neg (by omega), hdv h0, show E + m.bias - 1023 + 1023 - m.bias = E by omega, ← hsplit]
        · cases h
      · rw [if_neg h3] at h
        by_cases h4 : 0 < E ∧ E + m.bias ≤ 1023 ∧ 1023 < E + m.bias + m.p
        · rw [if_pos h4] at h
          obtain ⟨u, hu⟩ : ∃ u, 1024 - m.bias - E = u := ⟨_, rfl⟩
          rw [hu] at h
          obtain ⟨P, hP⟩ : ∃ P, 2 ^ u = P := ⟨_, rfl⟩
          rw [hP] at h
          have hPp : 0 < P := by rw [← hP]; exact Nat.pow_pos (Nat.zero_lt_two)
          have hDP : 0 < m.D * P := Nat.mul_pos c2 hPp
          split at h
          · rename_i h0
            obtain rfl := Option.some.inj h
            obtain ⟨f, hf⟩ : ∃ f, (F + A64) / (m.D * P) = f := ⟨_, rfl⟩
            have hfe : f * P * m.D = F + A64 := by
              have := Nat.div_add_mod (F + A64) (m.D * P)
              rw [h0, Nat.add_zero, hf] at this
              rw [← this, Nat.mul_assoc, Nat.mul_comm P, Nat.mul_comm]
            rw [hf]
            have g1 : m.A ≤ f * P := Nat.le_of_mul_le_mul_right (show m.A * m.D ≤ f * P * m.D by rw [c1, hfe]; omega) c2
            have g2 : f * P < 2 * m.A := Nat.lt_of_mul_lt_mul_right (a := m.D) (show f * P * m.D < 2 * m.A * m.D by rw [Nat.mul_assoc 2 m.A m.D, c1, hfe]; omega)
            have hP2 : 2 ≤ P := by rw [← hP]; exact pow_le (show 1 ≤ u by omega)
            have g3 : f < m.A := by
              have : f * 2 ≤ f * P := Nat.mul_le_mul_left _ hP2
              omega
            have hf0 : f ≠ 0 := by rintro rfl; omega
            have hup : up m f = u := up_uniq m hm (by omega) (by rw [hP]; exact g1) (by rw [hP]; exact g2) g3
            obtain ⟨p1, p2, p3, p4⟩ := parts 0 f (by omega) g3
            simp only [Nat.zero_mul, Nat.add_zero] at p1 p2 p3 p4
            refine ⟨p4, ?_⟩
            unfold widV
            rw [p1, p2, p3, if_neg (by omega), if_pos rfl, if_neg hf0, hup, hP, show 1024 - m.bias - u = E by omega, Nat.sub_mul, hfe, c1, Nat.add_sub_cancel, ← hsplit]
          · cases h
        · rw [if_neg h4] at h; cases h
/-- what is narrowed to 16 is narrowed to 32. -/
theorem nar16_32 {x a : Nat} (h : narV f16 x = some a) : ∃ b, narV f32 x = some b := by
  obtain ⟨s, hs⟩ : ∃ s, x / C64 = s := ⟨_, rfl⟩
  obtain ⟨E, he⟩ : ∃ E, x / A64 % 2048 = E := ⟨_, rfl⟩
  obtain ⟨F, hf⟩ : ∃ F, x % A64 = F := ⟨_, rfl⟩
  unfold narV at h ⊢
  simp only [hs, he, hf] at h ⊢
  have d16 : f16.D = 4398046511104 := rfl
  have d32 : f32.D = 536870912 := rfl
  have b16 : f16.bias = 15 := rfl
  have b32 : f32.bias = 127 := rfl
  have B16 : f16.B = 32 := rfl
  have B32 : f32.B = 256 := rfl
  have p16 : f16.p = 10 := rfl
  rw [d16, b16, B16, p16] at h
  rw [d32, b32, B32]
  by_cases h1 : E = 2047
  · rw [if_pos h1] at h ⊢
    split at h
    · rw [if_pos (by omega)]; exact ⟨_, rfl⟩
    · cases h
  · rw [if_neg h1] at h ⊢
    by_cases h2 : E = 0 ∧ F = 0
    · rw [if_pos h2]; exact ⟨_, rfl⟩
    · rw [if_neg h2] at h ⊢
      by_cases h3 : 1023 < E + 15 ∧ E + 15 < 1023 + 32 - 1
      · rw [if_pos h3] at h
        rw [if_pos (by omega)]
        split at h
        · rw [if_pos (by omega)]; exact ⟨_, rfl⟩
        · cases h
      · rw [if_neg h3] at h
        by_cases h4 : 0 < E ∧ E + 15 ≤ 1023 ∧ 1023 < E + 15 + 10
        · rw [if_pos h4] at h
          rw [if_pos (by omega)]
          split at h
          · rename_i h0
            have hd : 4398046511104 ∣ F + A64 := Nat.dvd_trans (Nat.dvd_mul_right _ _) (Nat.dvd_of_mod_eq_zero h0)
            have hF : F % 536870912 = 0 := by unfold A64 at hd; omega
            rw [if_pos hF]; exact ⟨_, rfl⟩
          · cases h
        · rw [if_neg h4] at h; cases h

/-- the sign makes no difference to what is narrowed. -/
theorem nar_sign (m : Fm) {x : Nat} (_hx : x < C64) : (narV m (x + C64)).isSome = (narV m x).isSome := by
  have e1 : (x + C64) / A64 % 2048 = x / A64 % 2048 := by unfold A64 C64 at *; omega
  have e2 : (x + C64) % A64 = x % A64 := by unfold A64 C64 at *; omega
  unfold narV
  simp only [e1, e2]
  split
  · split <;> simp only [Option.isSome_some, Option.isSome_none]
  · split
    · simp only [Option.isSome_some]
    · split
      · split <;> simp only [Option.isSome_some, Option.isSome_none]
      · split
        · split <;> simp only [Option.isSome_some, Option.isSome_none]
        · simp only [Option.isSome_none]

def fmOf (w : Int) : Option Fm := if w = 16 then some f16 else if w = 32 then some f32 else none
def widS (b : Nat) (w : Int) : Nat := if w = 64 then b else match fmOf w with | some m => if b < 2 * m.C then widV m b else 0 | none => 0
def widE (b : Nat) (w : Int) : Int := if w = 64 then 0 else match fmOf w with | some m => if b < 2 * m.C then 0 else 2 | none => 2
def narS (x : Nat) (w : Int) : Nat := if w = 64 then x else match fmOf w with | some m => (narV m x).getD 0 | none => 0
def narB (x : Nat) (w : Int) : Bool := if w = 64 then true else match fmOf w with | some m => (narV m x).isSome | none => false
def leastS (x : Nat) : Int := if (narV f16 x).isSome then 16 else if (narV f32 x).isSome then 32 else 64
def isW (w : Int) : Bool := decide (w = 16) || (decide (w = 32) || decide (w = 64))
def finB (x : Nat) : Bool := decide (x / A64 % 2048 ≠ 2047)
end Go.Proofs.YtfobaeoccpebeaaGreatDoor

/- Plain: decimals of floating numbers, and back. -/
namespace Go.Proofs.YtfobaeoccpebeaaGreatDoor
open Go Go.RowKit

/-- a finite number is (v odd part o) times a power of two. -/
def tdV (x : Nat) : Nat := if x / A64 % 2048 = 0 then x % A64 else x % A64 + A64
def tdZ (x : Nat) : Nat := Lib.ctz 64 (tdV x)
def tdO (x : Nat) : Nat := tdV x / 2 ^ tdZ x
def tdX (x : Nat) : Int := (max (x / A64 % 2048) 1 : Nat) - 1075 + tdZ x
def tdB (x : Nat) : Nat := if tdX x < 0 then 5 else 2
def tdT (x : Nat) : Int := if tdX x < 0 then tdX x else 0
def tdN (x : Nat) : Nat := tdO x * tdB x ^ (tdX x).natAbs
def tdP (x : Nat) : Bool := decide (powE (tdB x) (tdX x).natAbs = 0) && decide (fitE (tdN x) = 0)
/-- a float's decimal. -/
def toDecS (x : Nat) : D × Int :=
  if x / A64 % 2048 = 2047 then (D0, 50) else if tdV x = 0 then (Dz, 0)
  else if tdP x then mk (decide (x / C64 = 1)) (Lib.decDigits (tdN x)) (tdT x) else (D0, 40)

def FU : Nat := 2000
/-- a decimal as an odd number times a power of two. -/
def odN (d : D) : Nat := nv d.dg * 5 ^ d.ex.toNat
def odK (d : D) : Nat := (-d.ex).toNat
def odM (d : D) : Nat := odN d / 5 ^ odK d
def odZ (d : D) : Nat := Lib.ctzFrom FU (odM d)
def odO (d : D) : Nat := odM d / 2 ^ odZ d
def odX (d : D) : Int := d.ex + odZ d
def ofB (d : D) : Bool := decide (odN d % 5 ^ odK d = 0) && decide (odO d < 2 * A64)
def ofOk (d : D) : Bool := decR d && (decide (d.dg = [48]) || ofB d)
/-- a decimal's float. -/
def ofV (d : D) : Nat :=
  if decR d && (!decide (d.dg = [48]) && ofB d) then
    (if d.neg then C64 else 0) + (odX d + Lib.bitLen (odO d) + 1022).toNat * A64 + (odO d * 2 ^ (53 - Lib.bitLen (odO d)) - A64)
  else 0

theorem odd_uniq : ∀ {a b o q : Nat}, 2 ^ a * o = 2 ^ b * q → o % 2 = 1 → q % 2 = 1 → a = b ∧ o = q
  | 0, 0, o, q, h, _, _ => ⟨rfl, by simpa using h⟩
  | a + 1, 0, o, q, h, _, h2 => by
    exfalso
    rw [Nat.pow_succ, Nat.mul_comm (2 ^ a), Nat.mul_assoc, Nat.pow_zero, Nat.one_mul] at h
    omega
  | 0, b + 1, o, q, h, h1, _ => by
    exfalso
    rw [Nat.pow_succ, Nat.mul_comm (2 ^ b), Nat.mul_assoc, Nat.pow_zero, Nat.one_mul] at h
    omega
  | a + 1, b + 1, o, q, h, h1, h2 => by
    rw [Nat.pow_succ, Nat.pow_succ, Nat.mul_comm (2 ^ a), Nat.mul_comm (2 ^ b), Nat.mul_assoc, Nat.mul_assoc] at h
    obtain ⟨g1, g2⟩ := odd_uniq (Nat.eq_of_mul_eq_mul_left (by omega) h) h1 h2
    exact ⟨by rw [g1], g2⟩
theorem ctz_of {f N j o : Nat} (hN : N < 2 ^ f) (h : N = 2 ^ j * o) (ho : o % 2 = 1) : Lib.ctzFrom f N = j ∧ N / 2 ^ j = o := by
  have h0 : 0 < N := by rw [h]; exact Nat.mul_pos (Nat.pow_pos (by omega)) (by omega)
  obtain ⟨m, hm, _⟩ := Lib.ctzFrom_spec f N h0 hN
  obtain ⟨g1, g2⟩ := odd_uniq (hm.symm.trans h) (by omega) ho
  exact ⟨g1, by rw [h, Nat.mul_comm, Nat.mul_div_cancel _ (Nat.pow_pos (by omega))]⟩
theorem nv_zeros (k : Nat) : nv (List.replicate k 48) = 0 := by
  induction k with
  | zero => rfl
  | succ k ih => rw [List.replicate_succ', nv_snoc, ih]; rfl
theorem nv_dg_zeros (l : List UInt8) (k : Nat) : nv (l ++ List.replicate k 48) = nv l * 10 ^ k := by
  rw [nv_append, List.length_replicate, nv_zeros, Nat.add_zero]

/-- a decimal that is not 0. -/
theorem dec_num {d : D} (h : decR d = true) (h0 : d.dg ≠ [48]) : 0 < nv d.dg ∧ nv d.dg % 10 ≠ 0 ∧ Lib.decDigits (nv d.dg) = d.dg := by
  obtain ⟨h1, h2, h3, h4, h5, h6⟩ := decR_parts h h0
  have g := ((isRt_iff _).1 h1).1
  have hne : d.dg ≠ [] := by intro e; have := rt_len h1; rw [e] at this; simp at this
  obtain ⟨r, c, hr⟩ : ∃ r c, d.dg = r ++ [c] := ⟨d.dg.dropLast, d.dg.getLast hne, (List.dropLast_concat_getLast hne).symm⟩
  have hc : isDg c = true := rt_dgs h1 c (by rw [hr]; simp)
  have hc48 : c ≠ 48 := by intro e; rw [hr, List.getLast?_concat, e] at h5; exact h5 rfl
  have hb := dg_bounds hc
  have hcn : c.toNat ≠ 48 := fun e => hc48 (UInt8.toNat_inj.1 e)
  have hv : nv d.dg = nv r * 10 + (c.toNat - 48) := by rw [hr, nv_snoc]
  exact ⟨by omega, by omega, g.symm⟩
/-- what is made of a number's digits. -/
theorem mk_num {n : Bool} {N : Nat} {t : Int} {X : D} (hN : 0 < N) (h : mk n (Lib.decDigits N) t = (X, 0)) :
    X.neg = n ∧ decR X = true ∧ X.dg ≠ [48] ∧ ∃ k : Nat, X.ex = t + k ∧ nv X.dg * 10 ^ k = N := by
  have hh := dec_head1 hN
  have hne := dec_ne_nil N
  have hr : decR X = true := by have := mk_right (n := n) (l := Lib.decDigits N) (x := t) (by rw [h]); rw [h] at this; exact this
  unfold mk at h
  split at h
  · rw [stripL_id hh, if_neg hne] at h
    split at h
    · obtain rfl : mkD n (Lib.decDigits N) t = X := congrArg Prod.fst h
      have e1 : (mkD n (Lib.decDigits N) t).dg = stripR (Lib.decDigits N) := by unfold mkD; rw [stripL_id hh]
      have e2 : (mkD n (Lib.decDigits N) t).ex = t + (Lib.decDigits N).length - (stripR (Lib.decDigits N)).length := by unfold mkD; rw [stripL_id hh]
      have hsp := strip_split (Lib.decDigits N)
      have hle := stripR_le (Lib.decDigits N)
      refine ⟨rfl, hr, ?_, (Lib.decDigits N).length - (stripR (Lib.decDigits N)).length, ?_, ?_⟩
      · rw [e1]; intro e
        rw [e] at hsp
        exact hh (by rw [hsp]; rfl)
      · rw [e2]; omega
      · rw [e1, ← nv_dg_zeros, ← hsp, nv_dec]
    · cases congrArg Prod.snd h
  · cases congrArg Prod.snd h
theorem mk_back {d : D} (h : decR d = true) (h0 : d.dg ≠ [48]) (b : Nat) (hb : b ≤ 300) (t : Int) (ht : t = d.ex - b) (_hx : -1000 ≤ t ∧ t ≤ 1000) : mk d.neg (Lib.decDigits (nv d.dg * 10 ^ b)) t = (d, 0) := by
  obtain ⟨h1, h2, h3, h4, h5, h6⟩ := decR_parts h h0
  obtain ⟨g1, g2, g3⟩ := dec_num h h0
  have hne : d.dg ≠ [] := by intro e; have := rt_len h1; rw [e] at this; simp at this
  have e : Lib.decDigits (nv d.dg * 10 ^ b) = d.dg ++ List.replicate b 48 := by
    rw [← nv_dg_zeros]
    refine (dec_nv _ (by simp [hne]) (fun _ => by rw [head_app hne]; exact h6) ?_).1
    intro c hc
    rcases List.mem_append.1 hc with hc | hc
    · exact rt_dgs h1 c hc
    · rw [(List.mem_replicate.1 hc).2]; rfl
  have := mk_zeros d 0 b h (by omega) (by omega)
  rw [e, ht]
  exact this
theorem ten_pow (k : Nat) : (10 : Nat) ^ (3 * k) ≤ 2 ^ (10 * k) := by
  rw [Nat.pow_mul, Nat.pow_mul]
  exact Nat.pow_le_pow_left (by decide) k
theorem five_pow (k : Nat) : (5 : Nat) ^ k ≤ 2 ^ (3 * k) := by
  rw [Nat.pow_mul]
  exact Nat.pow_le_pow_left (by decide) k
theorem ten_le {a b : Nat} (h : a ≤ b) : (10 : Nat) ^ a ≤ 10 ^ b := Nat.pow_le_pow_right (by omega) h
theorem pow_lt_inv {a b : Nat} (h : 2 ^ a < 2 ^ b) : a < b := (Nat.pow_lt_pow_iff_right (by omega)).1 h
theorem dig_le {N k : Nat} (h : N < 10 ^ (k + 1)) (hk : k + 1 ≤ 400) : fitE N = 0 := by
  have := rdig_lt k N h
  unfold fitE
  rw [if_pos (by omega)]
theorem powE_ok {b m : Nat} (h : m ≤ 400) (h2 : fitE (b ^ m) = 0) : powE b (m : Nat) = 0 := by
  unfold powE
  rw [if_pos ⟨by omega, by omega⟩, Int.toNat_natCast]
  exact h2
theorem powE_no {b m : Nat} (h : 400 < m) : powE b (m : Nat) ≠ 0 := by
  unfold powE
  rw [if_neg (by omega)]
  decide

/-- where an odd number stands among 53 digits. -/
theorem len53 {o : Nat} (h0 : 0 < o) (h : o < 2 * A64) : 1 ≤ Lib.bitLen o ∧ Lib.bitLen o ≤ 53 ∧ A64 ≤ o * 2 ^ (53 - Lib.bitLen o) ∧ o * 2 ^ (53 - Lib.bitLen o) < 2 * A64 := by
  have hA : 2 * A64 = 2 ^ 53 := by decide
  obtain ⟨g1, g2, g3⟩ := len_bounds (f := o) (Nat.pos_iff_ne_zero.1 h0) (Nat.lt_trans h (by decide))
  have hL : Lib.bitLen o ≤ 53 := by
    have : (2 : Nat) ^ (Lib.bitLen o - 1) < 2 ^ 53 := by omega
    have := pow_lt_inv this
    omega
  obtain ⟨L, hLe⟩ : ∃ L, Lib.bitLen o = L := ⟨_, rfl⟩
  rw [hLe] at g1 g2 g3 hL ⊢
  have e1 : 2 ^ (L - 1) * 2 ^ (53 - L) = 2 ^ 52 := by rw [← Nat.pow_add]; congr 1; omega
  have e2 : 2 ^ L * 2 ^ (53 - L) = 2 ^ 53 := by rw [← Nat.pow_add]; congr 1; omega
  have hA2 : A64 = 2 ^ 52 := by decide
  refine ⟨g1, hL, ?_, ?_⟩
  · rw [hA2, ← e1]; exact Nat.mul_le_mul_right _ g2
  · rw [hA, ← e2]; exact Nat.mul_lt_mul_of_pos_right g3 (Nat.pow_pos (by omega))
theorem len53_uniq {o z : Nat} (h0 : 0 < o) (h1 : A64 ≤ o * 2 ^ z) (h2 : o * 2 ^ z < 2 * A64) : z = 53 - Lib.bitLen o ∧ Lib.bitLen o ≤ 53 ∧ 1 ≤ Lib.bitLen o := by
  have ho : o < 2 * A64 := by have : o * 1 ≤ o * 2 ^ z := Nat.mul_le_mul_left _ (Nat.pow_pos (by omega)); omega
  obtain ⟨g1, g2, g3, g4⟩ := len53 h0 ho
  refine ⟨?_, g2, g1⟩
  obtain ⟨u, hu⟩ : ∃ u, 53 - Lib.bitLen o = u := ⟨_, rfl⟩
  rw [hu] at g3 g4 ⊢
  rcases Nat.lt_trichotomy z u with h | h | h
  · have e : o * 2 ^ u = o * 2 ^ z * 2 ^ (u - z) := by rw [Nat.mul_assoc, ← Nat.pow_add]; congr 2; omega
    have := pow_le (show 1 ≤ u - z by omega)
    have : o * 2 ^ z * 2 ≤ o * 2 ^ z * 2 ^ (u - z) := Nat.mul_le_mul_left _ this
    omega
  · exact h
  · have e : o * 2 ^ z = o * 2 ^ u * 2 ^ (z - u) := by rw [Nat.mul_assoc, ← Nat.pow_add]; congr 2; omega
    have := pow_le (show 1 ≤ z - u by omega)
    have : o * 2 ^ u * 2 ≤ o * 2 ^ u * 2 ^ (z - u) := Nat.mul_le_mul_left _ this
    omega

def FA : Nat := 340
theorem FA_eq : FA = 10 * 34 := rfl
theorem FU_ge : 1000 ≤ FU := by decide

/-- what is known of a decimal's parts. -/
theorem od_parts {d : D} (h : decR d = true) (h0 : d.dg ≠ [48]) (hB : odN d % 5 ^ odK d = 0) :
    odM d * 5 ^ odK d = odN d ∧ odM d = 2 ^ odZ d * odO d ∧ odO d % 2 = 1 ∧ odZ d ≤ 640 ∧ nv d.dg < 2 ^ FA := by
  obtain ⟨h1, h2, h3, h4, h5, h6⟩ := decR_parts h h0
  obtain ⟨g1, g2, g3⟩ := dec_num h h0
  have hnv : nv d.dg < 2 ^ FA := by
    have a1 := nv_bound (rt_dgs h1)
    have a2 := ten_le (show d.dg.length ≤ 3 * 34 by omega)
    have a3 := ten_pow 34
    rw [FA_eq]
    exact Nat.lt_of_lt_of_le a1 (Nat.le_trans a2 a3)
  obtain ⟨e, he⟩ : ∃ e, d.ex.toNat = e := ⟨_, rfl⟩
  have he1 : e ≤ 100 := by omega
  have hN : odN d < 2 ^ (FA + 3 * e) := by
    unfold odN
    rw [he, Nat.pow_add]
    exact Nat.mul_lt_mul_of_lt_of_le hnv (five_pow e) (Nat.pow_pos (by omega))
  have hN0 : 0 < odN d := by unfold odN; exact Nat.mul_pos g1 (Nat.pow_pos (by omega))
  have hMN : odM d * 5 ^ odK d = odN d := by
    have := Nat.div_add_mod (odN d) (5 ^ odK d)
    rw [hB, Nat.add_zero, Nat.mul_comm] at this
    exact this
  have hM0 : 0 < odM d := by
    rcases Nat.eq_zero_or_pos (odM d) with hz | hz
    · rw [hz, Nat.zero_mul] at hMN; omega
    · exact hz
  have hMle : odM d ≤ odN d := by rw [← hMN]; exact Nat.le_mul_of_pos_right _ (Nat.pow_pos (by omega))
  have hFA : FA = 340 := rfl
  have hFU := FU_ge
  have hMU : odM d < 2 ^ FU := Nat.lt_of_lt_of_le (Nat.lt_of_le_of_lt hMle hN) (pow_le (by omega))
  obtain ⟨m, hm, _⟩ := Lib.ctzFrom_spec FU (odM d) hM0 hMU
  have hZ : odM d = 2 ^ odZ d * (2 * m + 1) := hm
  have hO : odO d = 2 * m + 1 := by
    unfold odO
    rw [hZ, Nat.mul_comm, Nat.mul_div_cancel _ (Nat.pow_pos (by omega))]
  have hZle : (2 : Nat) ^ odZ d < 2 ^ (FA + 3 * e) := by
    refine Nat.lt_of_le_of_lt ?_ (Nat.lt_of_le_of_lt hMle hN)
    rw [hZ]
    exact Nat.le_mul_of_pos_right _ (by omega)
  have := pow_lt_inv hZle
  exact ⟨hMN, by rw [hO]; exact hZ, by rw [hO]; omega, by omega, hnv⟩

/-- the float that a decimal has: its parts. -/
theorem ofV_parts {s : Bool} {X : Int} {o : Nat} (h1 : -1022 ≤ X) (h2 : X ≤ 900) (h0 : 0 < o) (h53 : o < 2 * A64) (hodd : o % 2 = 1) (x : Nat)
    (hx : x = (if s then C64 else 0) + (X + Lib.bitLen o + 1022).toNat * A64 + (o * 2 ^ (53 - Lib.bitLen o) - A64)) :
    x < 18446744073709551616 ∧ x / A64 % 2048 ≠ 2047 ∧ decide (x / C64 = 1) = s ∧ tdV x ≠ 0 ∧ tdO x = o ∧ tdX x = X := by
  obtain ⟨l1, l2, l3, l4⟩ := len53 h0 h53
  obtain ⟨E, hE⟩ : ∃ E : Nat, X + Lib.bitLen o + 1022 = (E : Int) := ⟨(X + Lib.bitLen o + 1022).toNat, by omega⟩
  obtain ⟨u, hu⟩ : ∃ u, 53 - Lib.bitLen o = u := ⟨_, rfl⟩
  obtain ⟨Y, hY⟩ : ∃ Y, o * 2 ^ u = Y := ⟨_, rfl⟩
  rw [hu] at l3 l4 hx
  rw [hY] at l3 l4 hx
  rw [hE, Int.toNat_natCast] at hx
  have hp := parts64 (s := if s then 1 else 0) (e := E) (f := Y - A64) (by omega) (by omega)
  have hx2 : x = (if s then 1 else 0) * C64 + E * A64 + (Y - A64) := by rw [hx]; cases s <;> simp
  rw [← hx2] at hp
  obtain ⟨p1, p2, p3⟩ := hp
  have hV : tdV x = Y := by unfold tdV; rw [p2, p3, if_neg (by omega)]; omega
  have hY0 : Y ≠ 0 := by have : 0 < A64 := by decide
                         omega
  have hz := ctz_of (f := 64) (N := Y) (j := u) (o := o) (Nat.lt_trans l4 (by decide)) (by rw [← hY, Nat.mul_comm]) hodd
  have hZ : tdZ x = u := by unfold tdZ Lib.ctz; rw [hV, if_neg hY0]; exact hz.1
  refine ⟨?_, by rw [p2]; omega, ?_, by rw [hV]; exact hY0, ?_, ?_⟩
  · rw [hx2]
    unfold A64 C64 at *
    cases s <;> simp <;> omega
  · rw [p1]; cases s <;> rfl
  · unfold tdO; rw [hZ, hV]; exact hz.2
  · unfold tdX; rw [hZ, p2]; omega

/-- a decimal's float has that decimal. -/
theorem of_to {d : D} (h : ofOk d = true) : ofV d < 18446744073709551616 ∧ toDecS (ofV d) = (d, 0) := by
  unfold ofOk at h
  rw [Bool.and_eq_true] at h
  obtain ⟨hr, h⟩ := h
  by_cases h0 : d.dg = [48]
  · have hd : d = Dz := by
      unfold decR at hr
      rw [if_pos h0, Bool.and_eq_true, decide_eq_true_eq, Bool.not_eq_true'] at hr
      exact D.ext' hr.2 h0 hr.1
    have hv : ofV d = 0 := by unfold ofV; rw [decide_eq_true h0]; simp
    rw [hv, hd]
    exact ⟨by decide, by unfold toDecS; rw [if_neg (by decide), if_pos (by decide)]⟩
  · rw [decide_eq_false h0, Bool.false_or] at h
    have hB := h
    unfold ofB at h
    rw [Bool.and_eq_true, decide_eq_true_eq, decide_eq_true_eq] at h
    obtain ⟨hdv, ho53⟩ := h
    obtain ⟨h1, h2, h3, h4, h5, h6⟩ := decR_parts hr h0
    obtain ⟨g1, g2, g3⟩ := dec_num hr h0
    obtain ⟨q1, q2, q3, q4, q5⟩ := od_parts hr h0 hdv
    have ho0 : 0 < odO d := by omega
    have hX1 : -1022 ≤ odX d ∧ odX d ≤ 900 := by unfold odX; omega
    have hv : ofV d = (if d.neg then C64 else 0) + (odX d + Lib.bitLen (odO d) + 1022).toNat * A64 + (odO d * 2 ^ (53 - Lib.bitLen (odO d)) - A64) := by
      unfold ofV
      rw [hr, decide_eq_false h0, hB]; rfl
    obtain ⟨p1, p2, p3, p4, p5, p6⟩ := ofV_parts hX1.1 hX1.2 ho0 ho53 q3 (ofV d) hv
    obtain ⟨x, hx⟩ : ∃ x, ofV d = x := ⟨_, rfl⟩
    rw [hx] at p1 p2 p3 p4 p5 p6 ⊢
    refine ⟨p1, ?_⟩
    unfold toDecS
    rw [if_neg p2, if_neg p4, p3]
    have hA53 : 2 * A64 = 2 ^ 53 := by decide
    have hFA : FA = 340 := rfl
    by_cases hex : 0 ≤ d.ex
    · -- no digits behind the point
      obtain ⟨e, he⟩ := Int.eq_ofNat_of_zero_le hex
      have hK : odK d = 0 := by unfold odK; omega
      have hN : odN d = nv d.dg * 5 ^ e := by unfold odN; rw [he, Int.toNat_natCast]
      rw [hK, Nat.pow_zero, Nat.mul_one, hN, q2] at q1
      have hco : Nat.Coprime (5 ^ e) (2 ^ odZ d) := Nat.Coprime.pow _ _ (by decide)
      have hdvd : 5 ^ e ∣ odO d := hco.dvd_of_dvd_mul_left (by rw [q1]; exact Nat.dvd_mul_left _ _)
      have h5 : 5 ^ e ≤ odO d := Nat.le_of_dvd ho0 hdvd
      have hZn : 2 ^ odZ d ≤ nv d.dg := by
        refine Nat.le_of_mul_le_mul_right ?_ (show 0 < 5 ^ e from Nat.pow_pos (by omega))
        rw [← q1]
        exact Nat.mul_le_mul_left _ h5
      have hZ := pow_lt_inv (Nat.lt_of_le_of_lt hZn q5)
      have he22 : e ≤ 26 := by
        have a1 : (4 : Nat) ^ e ≤ 5 ^ e := Nat.pow_le_pow_left (by omega) e
        have a2 : (4 : Nat) ^ e = 2 ^ (2 * e) := by rw [Nat.pow_mul]
        have := pow_lt_inv (show (2 : Nat) ^ (2 * e) < 2 ^ 53 by omega)
        omega
      obtain ⟨X, hX⟩ : ∃ X : Nat, odX d = (X : Int) := ⟨(odX d).toNat, by unfold odX; omega⟩
      have hXe : X = e + odZ d := by unfold odX at hX; omega
      have hNN : odO d * 2 ^ X = nv d.dg * 10 ^ e := by
        rw [hXe, Nat.pow_add, show (10 : Nat) ^ e = 5 ^ e * 2 ^ e from by rw [← Nat.mul_pow], ← Nat.mul_assoc, ← Nat.mul_assoc, ← q1, Nat.mul_right_comm, Nat.mul_comm (odO d)]
      have htd : tdB x = 2 ∧ tdT x = 0 ∧ (tdX x).natAbs = X := by
        unfold tdB tdT
        rw [p6, hX]
        exact ⟨if_neg (by omega), if_neg (by omega), by omega⟩
      have htn : tdN x = nv d.dg * 10 ^ e := by unfold tdN; rw [p5, htd.1, htd.2.2]; exact hNN
      have hlen := nv_bound (rt_dgs h1)
      have hsz : nv d.dg * 10 ^ e < 10 ^ (199 + 1) := by
        refine Nat.lt_of_lt_of_le (Nat.mul_lt_mul_of_pos_right hlen (Nat.pow_pos (by omega))) ?_
        rw [← Nat.pow_add]
        exact ten_le (by omega)
      have hP : tdP x = true := by
        unfold tdP
        rw [htn, htd.1, htd.2.2, decide_eq_true (dig_le hsz (by omega)), decide_eq_true (powE_ok (by omega) (dig_le (k := 199) (Nat.lt_of_le_of_lt (by rw [← hNN]; exact Nat.le_mul_of_pos_left _ ho0) hsz) (by omega)))]
        rfl
      rw [hP, if_pos rfl, htn, htd.2.1]
      exact mk_back hr h0 e (by omega) 0 (by omega) (by omega)
    · -- digits behind the point
      obtain ⟨m, hm⟩ : ∃ m : Nat, d.ex = -(m : Int) := ⟨(-d.ex).toNat, by omega⟩
      have hK : odK d = m := by unfold odK; omega
      have hN : odN d = nv d.dg := by unfold odN; rw [hm, show (-(m : Int)).toNat = 0 by omega, Nat.pow_zero, Nat.mul_one]
      rw [hK, hN] at q1
      have hm1 : 1 ≤ m := by omega
      have h5d : 5 ∣ nv d.dg := by
        rw [← q1, show m = m - 1 + 1 by omega, Nat.pow_succ, ← Nat.mul_assoc]
        exact Nat.dvd_mul_left _ _
      have hZ0 : odZ d = 0 := by
        rcases Nat.eq_zero_or_pos (odZ d) with hz | hz
        · exact hz
        · exfalso
          have h2d : 2 ∣ nv d.dg := by
            rw [← q1, q2, show odZ d = odZ d - 1 + 1 by omega, Nat.pow_succ, Nat.mul_comm (2 ^ _) 2, Nat.mul_assoc, Nat.mul_assoc]
            exact Nat.dvd_mul_right _ _
          omega
      have hMo : odM d = odO d := by rw [q2, hZ0, Nat.pow_zero, Nat.one_mul]
      have hXv : odX d = -(m : Int) := by unfold odX; rw [hZ0]; omega
      have htd : tdB x = 5 ∧ tdT x = d.ex ∧ (tdX x).natAbs = m := by
        unfold tdB tdT
        rw [p6, hXv]
        exact ⟨if_pos (by omega), by rw [if_pos (by omega), hm], by omega⟩
      have htn : tdN x = nv d.dg := by unfold tdN; rw [p5, htd.1, htd.2.2, ← hMo]; exact q1
      have hlen := nv_bound (rt_dgs h1)
      have hsz : nv d.dg < 10 ^ (199 + 1) := Nat.lt_of_lt_of_le hlen (ten_le (by omega))
      have hP : tdP x = true := by
        unfold tdP
        rw [htn, htd.1, htd.2.2, decide_eq_true (dig_le hsz (by omega)), decide_eq_true (powE_ok (by omega) (dig_le (k := 199) (Nat.lt_of_le_of_lt (by rw [← q1]; exact Nat.le_mul_of_pos_left _ (by rw [hMo]; exact ho0)) hsz) (by omega)))]
        rfl
      rw [hP, if_pos rfl, htn, htd.2.1]
      have := mk_back hr h0 0 (by omega) d.ex (by omega) (by omega)
      rw [Nat.pow_zero, Nat.mul_one] at this
      exact this
/-- a float's decimal has that float, but for -0. -/
theorem to_of {x : Nat} (hx : x < 18446744073709551616) {X : D} (h : toDecS x = (X, 0)) : ofOk X = true ∧ (ofV X = x ∨ (x = C64 ∧ ofV X = 0)) := by
  have hs2 : x / C64 < 2 := by unfold C64; omega
  have hFl : x % A64 < A64 := Nat.mod_lt _ (by decide)
  have hEl : x / A64 % 2048 < 2048 := Nat.mod_lt _ (by omega)
  have hsplit : x = x / C64 * C64 + x / A64 % 2048 * A64 + x % A64 := by unfold A64 C64; omega
  have hA0 : 0 < A64 := by decide
  unfold toDecS at h
  by_cases h1 : x / A64 % 2048 = 2047
  · rw [if_pos h1] at h; cases congrArg Prod.snd h
  · rw [if_neg h1] at h
    by_cases h2 : tdV x = 0
    · rw [if_pos h2] at h
      obtain rfl : Dz = X := congrArg Prod.fst h
      refine ⟨by decide +kernel, ?_⟩
      have hv0 : ofV Dz = 0 := by unfold ofV; rw [show decide (Dz.dg = [48]) = true from rfl]; simp
      unfold tdV at h2
      split at h2
      · rename_i he
        rw [he, h2] at hsplit
        rcases (show x / C64 = 0 ∨ x / C64 = 1 by generalize x / C64 = s at hs2; omega) with hz | hz
        · exact .inl (by rw [hv0, hsplit, hz]; simp)
        · exact .inr ⟨by rw [hsplit, hz]; simp, hv0⟩
      · omega
    · rw [if_neg h2] at h
      split at h
      · rename_i hP
        -- the odd part
        have hv : 0 < tdV x := Nat.pos_of_ne_zero h2
        have hvl : tdV x < 2 * A64 := by unfold tdV; split <;> omega
        have hspec := Lib.ctzFrom_spec 64 (tdV x) hv (Nat.lt_trans hvl (by decide))
        obtain ⟨m, hm, _⟩ := hspec
        have hz : tdZ x = Lib.ctzFrom 64 (tdV x) := by unfold tdZ Lib.ctz; rw [if_neg h2]
        rw [← hz] at hm
        have ho : tdO x = 2 * m + 1 := by
          unfold tdO
          conv => lhs; lhs; rw [hm]
          rw [Nat.mul_comm, Nat.mul_div_cancel _ (Nat.pow_pos (by omega))]
        have hvo : tdV x = 2 ^ tdZ x * tdO x := by rw [ho]; exact hm
        have hodd : tdO x % 2 = 1 := by omega
        have ho0 : 0 < tdO x := by omega
        have hol : tdO x < 2 * A64 := Nat.lt_of_le_of_lt (by rw [hvo]; exact Nat.le_mul_of_pos_left _ (Nat.pow_pos (by omega))) hvl
        clear hm ho hz
        unfold tdP at hP
        rw [Bool.and_eq_true, decide_eq_true_eq, decide_eq_true_eq] at hP
        have hN0 : 0 < tdN x := by
          unfold tdN
          refine Nat.mul_pos ho0 (Nat.pow_pos ?_)
          unfold tdB; split <;> omega
        obtain ⟨m1, m2, m3, k, m4, m5⟩ := mk_num hN0 h
        obtain ⟨g1, g2, g3⟩ := dec_num m2 m3
        -- a small number's power is too great
        have hE : x / A64 % 2048 ≠ 0 := by
          intro hE0
          have hvF : tdV x = x % A64 := by unfold tdV; rw [if_pos hE0]
          have hz52 : tdZ x < 52 := by
            have : (2 : Nat) ^ tdZ x < 2 ^ 52 := by
              have hA52 : A64 = 2 ^ 52 := by decide
              refine Nat.lt_of_le_of_lt ?_ (show tdV x < 2 ^ 52 by omega)
              rw [hvo]; exact Nat.le_mul_of_pos_right _ ho0
            exact pow_lt_inv this
          have hX : 400 < (tdX x).natAbs := by unfold tdX; rw [hE0]; omega
          exact powE_no hX hP.1
        have hvF : tdV x = x % A64 + A64 := by unfold tdV; rw [if_neg hE]
        have hlen := len53_uniq (o := tdO x) (z := tdZ x) ho0 (by rw [Nat.mul_comm, ← hvo]; omega) (by rw [Nat.mul_comm, ← hvo]; omega)
        have hX : tdX x = (x / A64 % 2048 : Nat) - 1075 + tdZ x := by unfold tdX; rw [Nat.max_eq_left (by omega)]
        -- what the decimal is read as
        have key : odN X % 5 ^ odK X = 0 ∧ odO X = tdO x ∧ odX X = tdX x := by
          have hten : ∀ j : Nat, (10 : Nat) ^ j = 5 ^ j * 2 ^ j := fun j => by rw [← Nat.mul_pow]
          by_cases hneg : tdX x < 0
          · obtain ⟨n, hn⟩ : ∃ n : Nat, (tdX x).natAbs = n := ⟨_, rfl⟩
            have hTN : tdN x = tdO x * 5 ^ n := by unfold tdN tdB; rw [if_pos hneg, hn]
            have hT : tdT x = tdX x := by unfold tdT; rw [if_pos hneg]
            have hNodd : tdN x % 2 = 1 := by
              rw [hTN, Nat.mul_mod, hodd, Nat.pow_mod]; simp
            have hk : k = 0 := by
              rcases Nat.eq_zero_or_pos k with hz | hz
              · exact hz
              · exfalso
                have h2d : 2 ∣ tdN x := by
                  rw [← m5, hten, show k = k - 1 + 1 by omega, Nat.pow_succ 2, ← Nat.mul_assoc, ← Nat.mul_assoc]
                  exact Nat.dvd_mul_left _ _
                omega
            rw [hk, Nat.pow_zero, Nat.mul_one] at m5
            have hex : X.ex = -(n : Int) := by omega
            have hK : odK X = n := by unfold odK; omega
            have hN : odN X = tdO x * 5 ^ n := by unfold odN; rw [hex, show (-(n : Int)).toNat = 0 by omega, Nat.pow_zero, Nat.mul_one, m5, hTN]
            have hM : odM X = tdO x := by unfold odM; rw [hN, hK, Nat.mul_div_cancel _ (Nat.pow_pos (by omega))]
            have hZ := ctz_of (f := FU) (N := tdO x) (j := 0) (o := tdO x) (Nat.lt_of_lt_of_le (Nat.lt_trans hol (show 2 * A64 < 2 ^ 64 by decide)) (pow_le (by have := FU_ge; omega))) (by rw [Nat.pow_zero, Nat.one_mul]) hodd
            have hZ0 : odZ X = 0 := by unfold odZ; rw [hM]; exact hZ.1
            refine ⟨by rw [hN, hK]; exact Nat.mul_mod_left _ _, by unfold odO; rw [hZ0, hM, Nat.pow_zero, Nat.div_one], by unfold odX; rw [hZ0]; omega⟩
          · obtain ⟨n, hn⟩ := Int.eq_ofNat_of_zero_le (show 0 ≤ tdX x by omega)
            have hTN : tdN x = tdO x * 2 ^ n := by unfold tdN tdB; rw [if_neg hneg, hn]; rfl
            have hT : tdT x = 0 := by unfold tdT; rw [if_neg hneg]
            have hex : X.ex = (k : Int) := by omega
            have hK : odK X = 0 := by unfold odK; omega
            have hN : odN X = nv X.dg * 5 ^ k := by unfold odN; rw [hex, Int.toNat_natCast]
            have hM : odM X = nv X.dg * 5 ^ k := by unfold odM; rw [hN, hK, Nat.pow_zero, Nat.div_one]
            have hdv : odN X % 5 ^ odK X = 0 := by rw [hK, Nat.pow_zero, Nat.mod_one]
            obtain ⟨q1, q2, q3, q4, q5⟩ := od_parts m2 m3 hdv
            have he : 2 ^ (odZ X + k) * odO X = 2 ^ n * tdO x := by
              rw [Nat.mul_comm (2 ^ n), ← hTN, ← m5, hten, ← Nat.mul_assoc, ← hM, q2, Nat.pow_add, Nat.mul_right_comm]
            obtain ⟨e1, e2⟩ := odd_uniq he q3 hodd
            exact ⟨hdv, e2, by unfold odX; omega⟩
        obtain ⟨k1, k2, k3⟩ := key
        have hB : ofB X = true := by
          unfold ofB
          rw [decide_eq_true k1, k2, decide_eq_true hol]; rfl
        refine ⟨by unfold ofOk; rw [m2, hB, Bool.or_true]; rfl, .inl ?_⟩
        unfold ofV
        rw [m2, decide_eq_false m3, hB, k2, k3, m1, hX]
        rw [← hlen.1, Nat.mul_comm (tdO x), ← hvo, hvF, Nat.add_sub_cancel]
        rw [show ((x / A64 % 2048 : Nat) - 1075 + (tdZ x : Int) + (Lib.bitLen (tdO x) : Int) + 1022).toNat = x / A64 % 2048 by omega]
        rw [if_pos (by rfl)]
        conv => rhs; rw [hsplit]
        rcases (show x / C64 = 0 ∨ x / C64 = 1 by generalize x / C64 = s at hs2; omega) with hz | hz <;> rw [hz] <;> simp
      · cases congrArg Prod.snd h
end Go.Proofs.YtfobaeoccpebeaaGreatDoor

