/- PC: TrP FlP TrQ TrF TrK TrM TrO TrC. -/
import Derived.Test.YtpjlepkdiaohiaaGreatDoorPA
import Derived.Lib.BitFns
import Derived.Lib.ItoaNum
import Derived.Test.YtpjlepkdiaohiaaGreatDoorPB
import Derived.Lib.ValidU
import Derived.Maps.AppendAt
import Derived.Lib.SmallJoins
import Derived.Deep.Slices
import Derived.ChangeArms
/- Plain: trees, and how they lie in memory. -/
namespace Go.Proofs.YtpjlepkdiaohiaaGreatDoor
open Go Go.RowKit

/-- what a node has beside its list. -/
structure Pay where
  k : Int
  b : Bool
  n : Bool
  dg : ByteArray
  ex : Int
  u : Nat
  w : Int
  s : ByteArray
inductive Tr where
  | nd (p : Pay) (l : List Tr)
def Tr.p : Tr → Pay | .nd p _ => p
def Tr.l : Tr → List Tr | .nd _ l => l
theorem Tr.eta : ∀ t : Tr, t = .nd t.p t.l | .nd _ _ => rfl
theorem Tr.ind {P : Tr → Prop} (h : ∀ p l, (∀ t, t ∈ l → P t) → P (.nd p l)) (t : Tr) : P t :=
  Tr.rec (motive_1 := P) (motive_2 := fun l => ∀ t, t ∈ l → P t) (fun p l ih => h p l ih) (fun _ ht => by cases ht)
    (fun a l ha hl t ht => by
      rcases List.mem_cons.1 ht with rfl | h'
      · exact ha
      · exact hl t h') t

mutual
/-- how many nodes. -/
def Tr.cnt : Tr → Nat | .nd _ l => cntL l + 1
def cntL : List Tr → Nat | [] => 0 | t :: r => t.cnt + cntL r
end
mutual
/-- how deep. -/
def Tr.dep : Tr → Nat | .nd _ l => depL l + 1
def depL : List Tr → Nat | [] => 0 | t :: r => max t.dep (depL r)
end
def Pay.same (p q : Pay) : Bool := p.k == q.k && (p.b == q.b && ((p.n == q.n && (p.dg.toList == q.dg.toList && p.ex == q.ex)) && (p.u == q.u && (p.w == q.w && p.s.toList == q.s.toList))))
mutual
/-- which are the same. -/
def Tr.same : Tr → Tr → Bool | .nd p l, .nd q m => Pay.same p q && sameL l m
def sameL : List Tr → List Tr → Bool | [], [] => true | t :: r, u :: s => Tr.same t u && sameL r s | _, _ => false
end

/-- a node's cells. -/
def ndL (p : Pay) (sl : Value) : List Value := [.int .i64 p.k, .bool p.b, .bool p.n, .string p.dg, .int .i64 p.ex, .int .u64 p.u, .int .i64 p.w, .string p.s, sl]
def ndV (p : Pay) (sl : Value) : Value := .agg (ndL p sl).toArray
/-- nine cells of a node lie at an address. -/
def AtN (W : World) (g o : Nat) (p : Pay) (sl : Value) : Prop := ∀ j x, (ndL p sl)[j]? = some x → W.cell? ⟨g, o + j, none⟩ = some x
/-- a tree lies in memory under a node's value. -/
inductive InT (W : World) : Value → Tr → Prop where
  | nd (p : Pay) (l : List Tr) (a : Option Addr) (n c : Nat) (sl : Nat → Value) (hn : n = l.length)
      (hc : ∀ i t, l[i]? = some t → ∃ g o, a = some ⟨g, o, none⟩ ∧ AtN W g (o + i * 9) t.p (sl i))
      (ht : ∀ i t, l[i]? = some t → InT W (ndV t.p (sl i)) t) : InT W (ndV p (.slice a n c)) (.nd p l)
theorem cell_kept {W W' : World} (hb : Below W.heap.size W W') {a : Addr} {v : Value} (h : W.cell? a = some v) : W'.cell? a = some v := by
  rw [hb.cell (by
    unfold World.cell? at h
    rcases Nat.lt_or_ge a.block W.heap.size with h2 | h2
    · exact h2
    · rw [Array.getElem?_eq_none h2] at h; cases h)]
  exact h
theorem InT.up {W W' : World} (hb : Below W.heap.size W W') {v : Value} {t : Tr} (h : InT W v t) : InT W' v t := by
  induction h with
  | nd p l a n c sl hn hc ht ih =>
    refine .nd p l a n c sl hn (fun i t hi => ?_) ih
    obtain ⟨g, o, h1, h2⟩ := hc i t hi
    exact ⟨g, o, h1, fun j x hj => cell_kept hb (h2 j x hj)⟩
end Go.Proofs.YtpjlepkdiaohiaaGreatDoor

/- Plain: floating numbers by their bits: widened, narrowed. -/
namespace Go.Proofs.YtpjlepkdiaohiaaGreatDoor
open Go

/-- a width below 64: how many digits a fraction has, and what the parts are divided by. -/
structure Fm where
  p : Nat
  A : Nat
  B : Nat
  C : Nat
  D : Nat
  bias : Nat
def f16 : Fm := ⟨10, 1024, 32, 32768, 4398046511104, 15⟩
def f32 : Fm := ⟨23, 8388608, 256, 2147483648, 536870912, 127⟩
def A64 : Nat := 4503599627370496
def C64 : Nat := 9223372036854775808
def Fm.ok (m : Fm) : Prop := m = f16 ∨ m = f32
def up (m : Fm) (f : Nat) : Nat := m.p + 1 - Lib.bitLen f
/-- what is widened. -/
def widV (m : Fm) (b : Nat) : Nat :=
  if b / m.A % m.B = m.B - 1 then b / m.C * C64 + 2047 * A64 + b % m.A * m.D
  else if b / m.A % m.B = 0 then
    (if b % m.A = 0 then b / m.C * C64
     else b / m.C * C64 + (1024 - m.bias - up m (b % m.A)) * A64 + (b % m.A * 2 ^ up m (b % m.A) - m.A) * m.D)
  else b / m.C * C64 + (b / m.A % m.B + 1023 - m.bias) * A64 + b % m.A * m.D
/-- what is narrowed. -/
def narV (m : Fm) (x : Nat) : Option Nat :=
  let s := x / C64
  let E := x / A64 % 2048
  let F := x % A64
  if E = 2047 then (if F % m.D = 0 then some (s * m.C + (m.B - 1) * m.A + F / m.D) else none)
  else if E = 0 ∧ F = 0 then some (s * m.C)
  else if 1023 < E + m.bias ∧ E + m.bias < 1023 + m.B - 1 then (if F % m.D = 0 then some (s * m.C + (E + m.bias - 1023) * m.A + F / m.D) else none)
  else if 0 < E ∧ E + m.bias ≤ 1023 ∧ 1023 < E + m.bias + m.p then
    (if (F + A64) % (m.D * 2 ^ (1024 - m.bias - E)) = 0 then some (s * m.C + (F + A64) / (m.D * 2 ^ (1024 - m.bias - E))) else none)
  else none

theorem len_bounds {f : Nat} (h0 : f ≠ 0) (h : f < 18446744073709551616) : 1 ≤ Lib.bitLen f ∧ 2 ^ (Lib.bitLen f - 1) ≤ f ∧ f < 2 ^ Lib.bitLen f :=
  Lib.bitLenAux_bounds 64 f h h0
theorem pow_le {a b : Nat} (h : a ≤ b) : (2 : Nat) ^ a ≤ 2 ^ b := Nat.pow_le_pow_right (by omega) h
/-- a small fraction, moved up to where it begins with a digit 1. -/
theorem up_spec (m : Fm) (hm : m.ok) {f : Nat} (h0 : f ≠ 0) (hf : f < m.A) : 1 ≤ up m f ∧ up m f ≤ m.p ∧ m.A ≤ f * 2 ^ up m f ∧ f * 2 ^ up m f < 2 * m.A := by
  have hA : m.A = 2 ^ m.p ∧ m.p ≤ 23 := by rcases hm with rfl | rfl <;> exact ⟨by decide, by decide⟩
  have hl := len_bounds h0 (by have := pow_le hA.2; omega)
  have hL : Lib.bitLen f ≤ m.p := by
    rcases Nat.lt_or_ge m.p (Lib.bitLen f) with h | h
    · have := pow_le (show m.p ≤ Lib.bitLen f - 1 by omega); omega
    · exact h
  unfold up
  have e1 : 2 ^ (Lib.bitLen f - 1) * 2 ^ (m.p + 1 - Lib.bitLen f) = 2 ^ m.p := by rw [← Nat.pow_add]; congr 1; omega
  have e2 : 2 ^ Lib.bitLen f * 2 ^ (m.p + 1 - Lib.bitLen f) = 2 * 2 ^ m.p := by rw [← Nat.pow_add, Nat.mul_comm 2, ← Nat.pow_succ]; congr 1; omega
  refine ⟨by omega, by omega, ?_, ?_⟩
  · rw [hA.1, ← e1]; exact Nat.mul_le_mul_right _ hl.2.1
  · rw [hA.1, ← e2]; exact Nat.mul_lt_mul_of_pos_right hl.2.2 (Nat.pow_pos (by omega))
theorem up_uniq (m : Fm) (hm : m.ok) {f u : Nat} (hu : u ≤ m.p + 1) (h1 : m.A ≤ f * 2 ^ u) (h2 : f * 2 ^ u < 2 * m.A) (hf : f < m.A) : up m f = u := by
  have hA : m.A = 2 ^ m.p ∧ m.p ≤ 23 ∧ 0 < m.A := by rcases hm with rfl | rfl <;> exact ⟨by decide, by decide, by decide⟩
  have h0 : f ≠ 0 := by rintro rfl; omega
  obtain ⟨g1, g2, g3, g4⟩ := up_spec m hm h0 hf
  rcases Nat.lt_trichotomy (up m f) u with h | h | h
  · have e : f * 2 ^ u = f * 2 ^ up m f * 2 ^ (u - up m f) := by rw [Nat.mul_assoc, ← Nat.pow_add]; congr 2; omega
    have := pow_le (show 1 ≤ u - up m f by omega)
    have : f * 2 ^ up m f * 2 ≤ f * 2 ^ up m f * 2 ^ (u - up m f) := Nat.mul_le_mul_left _ this
    omega
  · exact h
  · have e : f * 2 ^ up m f = f * 2 ^ u * 2 ^ (up m f - u) := by rw [Nat.mul_assoc, ← Nat.pow_add]; congr 2; omega
    have := pow_le (show 1 ≤ up m f - u by omega)
    have : f * 2 ^ u * 2 ≤ f * 2 ^ u * 2 ^ (up m f - u) := Nat.mul_le_mul_left _ this
    omega

/-- the parts of what is joined. -/
theorem parts64 {s e f : Nat} (he : e < 2048) (hf : f < A64) : (s * C64 + e * A64 + f) / C64 = s ∧ (s * C64 + e * A64 + f) / A64 % 2048 = e ∧ (s * C64 + e * A64 + f) % A64 = f := by
  unfold A64 C64 at *
  refine ⟨?_, ?_, ?_⟩ <;> omega

theorem nar_wid (m : Fm) (hm : m.ok) (b : Nat) (hb : b < 2 * m.C) : narV m (widV m b) = some b := by
  have hcon : m.A * m.D = A64 ∧ 0 < m.D ∧ m.A * m.B = m.C ∧ m.bias ≤ 127 ∧ m.p ≤ 23 ∧ 1 < m.B ∧ m.B ≤ 256 ∧ 0 < m.A ∧ m.p + 1 ≤ 1024 - m.bias ∧ m.B = 2 * m.bias + 2 := by
    rcases hm with rfl | rfl <;> refine ⟨by decide, by decide, by decide, by decide, by decide, by decide, by decide, by decide, by decide, by decide⟩
  obtain ⟨c1, c2, c3, c4, c5, c6, c7, c8, c9, c10⟩ := hcon
  have hF : b % m.A < m.A := Nat.mod_lt _ c8
  have hE : b / m.A % m.B < m.B := Nat.mod_lt _ (by omega)
  have hsplit : b = b / m.C * m.C + b / m.A % m.B * m.A + b % m.A := by
    have h1 := Nat.div_add_mod b m.A
    have h2 := Nat.div_add_mod (b / m.A) m.B
    rw [Nat.div_div_eq_div_mul, c3] at h2
    have h3 : m.A * (m.B * (b / m.C) + b / m.A % m.B) = b / m.C * m.C + b / m.A % m.B * m.A := by
      rw [Nat.mul_add, ← Nat.mul_assoc, c3, Nat.mul_comm m.C, Nat.mul_comm m.A (b / m.A % m.B)]
    rw [← h2, h3] at h1
    exact h1.symm
  obtain ⟨s, hs⟩ : ∃ s, b / m.C = s := ⟨_, rfl⟩
  obtain ⟨e, he⟩ : ∃ e, b / m.A % m.B = e := ⟨_, rfl⟩
  obtain ⟨f, hf⟩ : ∃ f, b % m.A = f := ⟨_, rfl⟩
  unfold widV
  rw [hs, he, hf]
  rw [hs, he, hf] at hsplit
  rw [he] at hE
  rw [hf] at hF
  clear hs he hf
  have hfD : f * m.D < A64 := by rw [← c1]; exact Nat.mul_lt_mul_of_pos_right hF c2
  have hmod : f * m.D % m.D = 0 := Nat.mul_mod_left _ _
  have hdiv : f * m.D / m.D = f := Nat.mul_div_cancel _ c2
  by_cases h1 : e = m.B - 1
  · rw [if_pos h1]
    obtain ⟨p1, p2, p3⟩ := parts64 (s := s) (e := 2047) (f := f * m.D) (by omega) hfD
    unfold narV
    simp only [p1, p2, p3]
    rw [if_pos trivial, if_pos hmod, hdiv, ← h1, ← hsplit]
  · rw [if_neg h1]
    by_cases h2 : e = 0
    · rw [if_pos h2]
      by_cases h3 : f = 0
      · rw [if_pos h3]
        obtain ⟨p1, p2, p3⟩ := parts64 (s := s) (e := 0) (f := 0) (by omega) (by unfold A64; omega)
        simp only [Nat.zero_mul, Nat.add_zero] at p1 p2 p3
        unfold narV
        simp only [p1, p2, p3]
        rw [if_neg (by omega), if_pos ⟨trivial, trivial⟩]
        congr 1
        rw [hsplit, h2, h3]; omega
      · rw [if_neg h3]
        obtain ⟨u1, u2, u3, u4⟩ := up_spec m hm h3 hF
        obtain ⟨u, hu⟩ : ∃ u, up m f = u := ⟨_, rfl⟩
        obtain ⟨P, hP⟩ : ∃ P, 2 ^ u = P := ⟨_, rfl⟩
        rw [hu] at u1 u2 u3 u4 ⊢
        rw [hP] at u3 u4 ⊢
        obtain ⟨g, hg⟩ : ∃ g, f * P - m.A = g := ⟨_, rfl⟩
        have hfg : f * P = m.A + g := by omega
        have hgA : g < m.A := by omega
        have hgD : g * m.D < A64 := by rw [← c1]; exact Nat.mul_lt_mul_of_pos_right hgA c2
        rw [hg]
        obtain ⟨p1, p2, p3⟩ := parts64 (s := s) (e := 1024 - m.bias - u) (f := g * m.D) (by omega) hgD
        unfold narV
        simp only [p1, p2, p3]
        have hlow : 1024 - m.bias - (1024 - m.bias - u) = u := by omega
        have hnum : g * m.D + A64 = f * (m.D * P) := by
          rw [← c1, Nat.add_comm, ← Nat.add_mul, ← hfg, Nat.mul_assoc, Nat.mul_comm P]
        have hPp : 0 < m.D * P := Nat.mul_pos c2 (by rw [← hP]; exact Nat.pow_pos (Nat.zero_lt_two))
        rw [if_neg (by omega), if_neg (by omega), if_neg (by omega), if_pos ⟨by omega, by omega, by omega⟩, hlow, hP, hnum, if_pos (Nat.mul_mod_left _ _), Nat.mul_div_cancel _ hPp]
        congr 1
        rw [hsplit, h2]; omega
    · rw [if_neg h2]
      obtain ⟨p1, p2, p3⟩ := parts64 (s := s) (e := e + 1023 - m.bias) (f := f * m.D) (by omega) hfD
      unfold narV
      simp only [p1, p2, p3]
      rw [if_neg (by omega), if_neg (by omega), if_pos ⟨by omega, by omega⟩, if_pos hmod, hdiv]
      congr 1
      rw [show e + 1023 - m.bias + m.bias - 1023 = e by omega, ← hsplit]
theorem nar_lt (m : Fm) (hm : m.ok) {x b : Nat} (hx : x < 18446744073709551616) (h : narV m x = some b) : b < 2 * m.C ∧ widV m b = x := by
  have hcon : m.A * m.D = A64 ∧ 0 < m.D ∧ m.A * m.B = m.C ∧ m.bias ≤ 127 ∧ m.p ≤ 23 ∧ 1 < m.B ∧ m.B ≤ 256 ∧ 0 < m.A ∧ m.p + 1 ≤ 1024 - m.bias ∧ m.B = 2 * m.bias + 2 ∧ m.A = 2 ^ m.p := by
    rcases hm with rfl | rfl <;> refine ⟨by decide, by decide, by decide, by decide, by decide, by decide, by decide, by decide, by decide, by decide, by decide⟩
  obtain ⟨c1, c2, c3, c4, c5, c6, c7, c8, c9, c10, c11⟩ := hcon
  have hs2 : x / C64 < 2 := by unfold C64; omega
  have hF : x % A64 < A64 := Nat.mod_lt _ (by unfold A64; omega)
  have hE : x / A64 % 2048 < 2048 := Nat.mod_lt _ (by omega)
  have hsplit : x = x / C64 * C64 + x / A64 % 2048 * A64 + x % A64 := by unfold A64 C64; omega
  obtain ⟨s, hs⟩ : ∃ s, x / C64 = s := ⟨_, rfl⟩
  obtain ⟨E, he⟩ : ∃ E, x / A64 % 2048 = E := ⟨_, rfl⟩
  obtain ⟨F, hf⟩ : ∃ F, x % A64 = F := ⟨_, rfl⟩
  unfold narV at h
  simp only [hs, he, hf] at h
  rw [hs, he, hf] at hsplit
  rw [hs] at hs2
  rw [he] at hE
  rw [hf] at hF
  clear hs he hf
  -- the parts of a narrow number
  have parts : ∀ e f, e < m.B → f < m.A → (s * m.C + e * m.A + f) / m.C = s ∧ (s * m.C + e * m.A + f) / m.A % m.B = e ∧ (s * m.C + e * m.A + f) % m.A = f ∧ s * m.C + e * m.A + f < 2 * m.C := by
    intro e f h1 h2
    have h3 : e * m.A + f < m.C := by
      rw [← c3, Nat.mul_comm]
      have : m.A * e + m.A ≤ m.A * m.B := by rw [← Nat.mul_succ]; exact Nat.mul_le_mul_left _ h1
      omega
    have h4 : s * m.C + e * m.A + f = m.A * (m.B * s + e) + f := by rw [Nat.mul_add, ← Nat.mul_assoc, c3, Nat.mul_comm s, Nat.mul_comm e]
    refine ⟨?_, ?_, ?_, ?_⟩
    · rw [Nat.add_assoc, Nat.mul_comm, Nat.mul_add_div (by omega), Nat.div_eq_of_lt h3]; rfl
    · rw [h4, Nat.mul_add_div c8, Nat.div_eq_of_lt h2, Nat.add_zero, Nat.mul_add_mod, Nat.mod_eq_of_lt h1]
    · rw [h4, Nat.mul_add_mod, Nat.mod_eq_of_lt h2]
    · have : s * m.C ≤ 1 * m.C := Nat.mul_le_mul_right _ (by omega)
      omega
  have hdv : F % m.D = 0 → F / m.D * m.D = F := fun h0 => by
    have := Nat.div_add_mod F m.D
    rw [h0, Nat.add_zero, Nat.mul_comm] at this
    exact this
  have hfl : F / m.D < m.A := by rw [Nat.div_lt_iff_lt_mul c2, c1]; exact hF
  by_cases h1 : E = 2047
  · rw [if_pos h1] at h
    split at h
    · rename_i h0
      obtain rfl := Option.some.inj h
      obtain ⟨p1, p2, p3, p4⟩ := parts (m.B - 1) (F / m.D) (by omega) hfl
      refine ⟨p4, ?_⟩
      unfold widV
      rw [p1, p2, p3, if_pos rfl, hdv h0, ← h1, ← hsplit]
    · cases h
  · rw [if_neg h1] at h
    by_cases h2 : E = 0 ∧ F = 0
    · rw [if_pos h2] at h
      obtain rfl := Option.some.inj h
      obtain ⟨p1, p2, p3, p4⟩ := parts 0 0 (by omega) c8
      simp only [Nat.zero_mul, Nat.add_zero] at p1 p2 p3 p4
      refine ⟨p4, ?_⟩
      unfold widV
      rw [p1, p2, p3, if_neg (by omega), if_pos rfl, if_pos rfl, hsplit, h2.1, h2.2]; omega
    · rw [if_neg h2] at h
      by_cases h3 : 1023 < E + m.bias ∧ E + m.bias < 1023 + m.B - 1
      · rw [if_pos h3] at h
        split at h
        · rename_i h0
          obtain rfl := Option.some.inj h
          obtain ⟨p1, p2, p3, p4⟩ := parts (E + m.bias - 1023) (F / m.D) (by omega) hfl
          refine ⟨p4, ?_⟩
          unfold widV
          rw [p1, p2, p3, if_neg (by omega), if_neg (by omega), hdv h0, show E + m.bias - 1023 + 1023 - m.bias = E by omega, ← hsplit]
        · cases h
      · rw [if_neg h3] at h
        by_cases h4 : 0 < E ∧ E + m.bias ≤ 1023 ∧ 1023 < E + m.bias + m.p
        · rw [if_pos h4] at h
          obtain ⟨u, hu⟩ : ∃ u, 1024 - m.bias - E = u := ⟨_, rfl⟩
          rw [hu] at h
          obtain ⟨P, hP⟩ : ∃ P, 2 ^ u = P := ⟨_, rfl⟩
          rw [hP] at h
          have hPp : 0 < P := by rw [← hP]; exact Nat.pow_pos (Nat.zero_lt_two)
          have hDP : 0 < m.D * P := Nat.mul_pos c2 hPp
          split at h
          · rename_i h0
            obtain rfl := Option.some.inj h
            obtain ⟨f, hf⟩ : ∃ f, (F + A64) / (m.D * P) = f := ⟨_, rfl⟩
            have hfe : f * P * m.D = F + A64 := by
              have := Nat.div_add_mod (F + A64) (m.D * P)
              rw [h0, Nat.add_zero, hf] at this
              rw [← this, Nat.mul_assoc, Nat.mul_comm P, Nat.mul_comm]
            rw [hf]
            have g1 : m.A ≤ f * P := Nat.le_of_mul_le_mul_right (show m.A * m.D ≤ f * P * m.D by rw [c1, hfe]; omega) c2
            have g2 : f * P < 2 * m.A := Nat.lt_of_mul_lt_mul_right (a := m.D) (show f * P * m.D < 2 * m.A * m.D by rw [Nat.mul_assoc 2 m.A m.D, c1, hfe]; omega)
            have hP2 : 2 ≤ P := by rw [← hP]; exact pow_le (show 1 ≤ u by omega)
            have g3 : f < m.A := by
              have : f * 2 ≤ f * P := Nat.mul_le_mul_left _ hP2
              omega
            have hf0 : f ≠ 0 := by rintro rfl; omega
            have hup : up m f = u := up_uniq m hm (by omega) (by rw [hP]; exact g1) (by rw [hP]; exact g2) g3
            obtain ⟨p1, p2, p3, p4⟩ := parts 0 f (by omega) g3
            simp only [Nat.zero_mul, Nat.add_zero] at p1 p2 p3 p4
            refine ⟨p4, ?_⟩
            unfold widV
            rw [p1, p2, p3, if_neg (by omega), if_pos rfl, if_neg hf0, hup, hP, show 1024 - m.bias - u = E by omega, Nat.sub_mul, hfe, c1, Nat.add_sub_cancel, ← hsplit]
          · cases h
        · rw [if_neg h4] at h; cases h
def fmOf (w : Int) : Option Fm := if w = 16 then some f16 else if w = 32 then some f32 else none
def widS (b : Nat) (w : Int) : Nat := if w = 64 then b else match fmOf w with | some m => if b < 2 * m.C then widV m b else 0 | none => 0
def widE (b : Nat) (w : Int) : Int := if w = 64 then 0 else match fmOf w with | some m => if b < 2 * m.C then 0 else 2 | none => 2
def narS (x : Nat) (w : Int) : Nat := if w = 64 then x else match fmOf w with | some m => (narV m x).getD 0 | none => 0
def narB (x : Nat) (w : Int) : Bool := if w = 64 then true else match fmOf w with | some m => (narV m x).isSome | none => false
def leastS (x : Nat) : Int := if (narV f16 x).isSome then 16 else if (narV f32 x).isSome then 32 else 64
def isW (w : Int) : Bool := decide (w = 16) || (decide (w = 32) || decide (w = 64))
def finB (x : Nat) : Bool := decide (x / A64 % 2048 ≠ 2047)
end Go.Proofs.YtpjlepkdiaohiaaGreatDoor

/- Plain: which trees are the same, right, and fit a form. -/
namespace Go.Proofs.YtpjlepkdiaohiaaGreatDoor
open Go Go.RowKit

theorem Pay.same_iff {p q : Pay} : Pay.same p q = true ↔ p = q := by
  constructor
  · intro h
    obtain ⟨k, b, n, dg, ex, u, w, s⟩ := p
    obtain ⟨k', b', n', dg', ex', u', w', s'⟩ := q
    unfold Pay.same at h
    simp only [Bool.and_eq_true, beq_iff_eq] at h
    obtain ⟨h1, h2, ⟨h3, h4, h5⟩, h6, h7, h8⟩ := h
    have e : ∀ {a b : ByteArray}, a.toList = b.toList → a = b := fun {a b} h => by
      rw [Lib.toList_data, Lib.toList_data] at h
      cases a; cases b
      simp only at h
      rw [Array.toList_inj.1 h]
    subst h1 h2 h3 h5 h6 h7
    rw [e h4, e h8]
  · rintro rfl
    unfold Pay.same
    simp
theorem same_iff : ∀ a b : Tr, Tr.same a b = true ↔ a = b := by
  intro a
  induction a using Tr.ind with
  | h p l ih =>
    rintro ⟨q, m⟩
    rw [Tr.same, Bool.and_eq_true, Pay.same_iff]
    have hl : ∀ (l m : List Tr), (∀ t, t ∈ l → ∀ b, Tr.same t b = true ↔ t = b) → (sameL l m = true ↔ l = m) := by
      intro l
      induction l with
      | nil => intro m _; cases m <;> simp [sameL]
      | cons t r ih2 =>
        intro m h
        cases m with
        | nil => simp [sameL]
        | cons v s =>
          rw [sameL, Bool.and_eq_true, h t (List.mem_cons_self ..) v, ih2 s (fun t ht => h t (List.mem_cons_of_mem _ ht))]
          simp
    rw [hl l m ih]
    simp
theorem same_self (a : Tr) : Tr.same a a = true := (same_iff a a).2 rfl
def Pay.z : Pay := ⟨0, false, false, ⟨#[]⟩, 0, 0, 0, ⟨#[]⟩⟩
/-- has a node nothing but what is named? -/
def onlyP (p q : Pay) : Bool := Pay.same p { q with k := p.k }
/-- is one of a list there twice? -/
def twice : List Tr → Bool
  | [] => false
  | t :: r => r.any (fun x => Tr.same t x) || twice r
/-- a map's keys. -/
def keysT : List Tr → List Tr
  | [] => []
  | [t] => [t]
  | t :: _ :: r => t :: keysT r
def utfOk (s : ByteArray) : Bool := Lib.validD s.data.toList
/-- is a node right, without those of its list? -/
def ownP (p : Pay) (l : List Tr) : Bool :=
  if p.k = 1 then l.isEmpty && onlyP p Pay.z
  else if p.k = 2 then l.isEmpty && onlyP p { Pay.z with b := p.b }
  else if p.k = 3 then l.isEmpty && (onlyP p { Pay.z with n := p.n, dg := p.dg, ex := p.ex } && decR ⟨p.n, tx p.dg, p.ex⟩)
  else if p.k = 4 then l.isEmpty && (onlyP p { Pay.z with u := p.u, w := p.w } && decide (widE p.u p.w = 0))
  else if p.k = 5 then l.isEmpty && (onlyP p { Pay.z with s := p.s } && (decide (p.s.size ≤ 400) && utfOk p.s))
  else if p.k = 6 then l.isEmpty && (onlyP p { Pay.z with s := p.s } && decide (p.s.size ≤ 400))
  else if p.k = 7 then onlyP p Pay.z
  else if p.k = 8 then onlyP p Pay.z && (decide (l.length % 2 = 0) && !twice (keysT l))
  else if p.k = 9 then decide (l.length = 1) && onlyP p { Pay.z with u := p.u }
  else if p.k = 10 then l.isEmpty && (onlyP p { Pay.z with u := p.u } && (decide (p.u ≤ 19) || (decide (p.u = 23) || (decide (32 ≤ p.u) && decide (p.u ≤ 255)))))
  else if p.k = 11 then l.isEmpty && (onlyP p { Pay.z with u := p.u, s := p.s } && (decide (p.u ≤ 255) && decide (p.s.size ≤ 400)))
  else false
mutual
/-- are all nodes right? -/
def Tr.all : Tr → Bool | .nd p l => ownP p l && allL l
def allL : List Tr → Bool | [] => true | t :: r => t.all && allL r
end
def wrapI (n : Nat) : Int := IntKind.i64.wrap (n : Int)
def Tr.right (t : Tr) : Bool := decide (wrapI t.cnt ≤ 300) && (decide (t.dep ≤ 16) && t.all)
end Go.Proofs.YtpjlepkdiaohiaaGreatDoor

/- Plain: which trees fit a form; what TreeForms, TreeWraps, TreeSums ask. -/
namespace Go.Proofs.YtpjlepkdiaohiaaGreatDoor
open Go Go.RowKit

def Pay.d (p : Pay) : D := ⟨p.n, tx p.dg, p.ex⟩
/-- may a node be a key of a form? -/
def keyOk (p : Pay) (f : Int) : Bool :=
  if p.k = 3 ∧ f ≠ 1 then tiB p.d else decide (p.k = 5) || (decide (f ≠ 1) && (decide (p.k = 6) || (decide (p.k = 2) || decide (p.k = 1))))
def keysOk (l : List Tr) (f : Int) : Bool := (keysT l).all fun t => keyOk t.p f
def formB (f : Int) : Bool := decide (1 ≤ f) && decide (f ≤ 4)
/-- does a node fit a form? -/
def fitN (p : Pay) (l : List Tr) (f : Int) : Bool :=
  formB f && (
    if p.k = 4 then decide (f ≠ 1) && ((decide (f ≠ 4) || decide (p.w ≠ 16)) && (decide (f ≠ 3) || decide (leastS (widS p.u p.w) = p.w)))
    else if p.k = 3 then decide (f = 1) || (tiB p.d && (decide (f ≠ 4) || (!(tiB p.d && p.n) || decide (tiN p.d ≤ 9223372036854775808))))
    else if p.k = 6 then decide (f ≠ 1)
    else if p.k = 9 ∨ p.k = 10 then decide (f = 2) || decide (f = 3)
    else if p.k = 11 then decide (f = 4)
    else if p.k = 8 then keysOk l f
    else true)
mutual
def Tr.fit : Tr → Int → Bool | .nd p l, f => fitN p l f && fitL l f
def fitL : List Tr → Int → Bool | [], _ => true | t :: r, f => t.fit f && fitL r f
end
/-- what is wrong with a tree. -/
def chk (t : Tr) (f : Int) : Int := if t.right then (if t.fit f then 0 else 61) else 60
mutual
/-- has a tree just whole numbers from 0 to 2 to the power 63? -/
def Tr.small : Tr → Bool | .nd p l => if p.k = 3 then tiB p.d && (!(tiB p.d && p.n) && decide (tiN p.d ≤ 9223372036854775808)) else smallL l
def smallL : List Tr → Bool | [] => true | t :: r => t.small && smallL r
end

theorem allL_iff (l : List Tr) : allL l = true ↔ ∀ t, t ∈ l → t.all = true := by
  induction l with
  | nil => simp [allL]
  | cons t r ih => rw [allL, Bool.and_eq_true, ih]; simp
theorem fitL_iff (l : List Tr) (f : Int) : fitL l f = true ↔ ∀ t, t ∈ l → t.fit f = true := by
  induction l with
  | nil => simp [fitL]
  | cons t r ih => rw [fitL, Bool.and_eq_true, ih]; simp
/-- an array of one tree. -/
def arr1 (t : Tr) : Tr := .nd { Pay.z with k := 7 } [t]
theorem wrap_add (n : Nat) (k : Int) : IntKind.i64.wrap (wrapI n + k) = IntKind.i64.wrap ((n : Int) + k) := by
  unfold wrapI
  simp only [IntKind.wrap_i64]
  omega
theorem wrap64_wrapI (n k : Nat) : wrap64 (wrapI n + (k : Int)) = wrapI (n + k) := by
  have h := wrap_add n k
  unfold wrapI at h ⊢
  simp only [IntKind.wrap_i64] at h ⊢
  unfold wrap64
  omega
theorem wrap64_two (a b : Nat) : wrap64 (wrapI a + wrapI b) = wrapI (a + b) := by
  have he : ∀ x, IntKind.i64.wrap x = wrap64 x := fun x => by rw [IntKind.wrap_i64]; unfold wrap64; omega
  have h1 := wrap_add a (wrapI b)
  have h2 := wrap_add b (a : Int)
  rw [← he, h1, Int.add_comm, h2]
  unfold wrapI
  congr 1
  omega
end Go.Proofs.YtpjlepkdiaohiaaGreatDoor

/- Plain: keys, twins, all nodes of a tree in the order in which they are gone through. -/
namespace Go.Proofs.YtpjlepkdiaohiaaGreatDoor
open Go Go.RowKit

theorem keysT_get : ∀ (l : List Tr) (j : Nat), (keysT l)[j]? = l[2 * j]?
  | [], _ => by simp [keysT]
  | [t], 0 => by simp [keysT]
  | [t], j + 1 => by
    rw [show 2 * (j + 1) = (2 * j + 1) + 1 by omega]
    simp [keysT]
  | t :: u :: r, 0 => by simp [keysT]
  | t :: u :: r, j + 1 => by
    rw [keysT, List.getElem?_cons_succ, keysT_get r j, show 2 * (j + 1) = (2 * j + 1) + 1 by omega, List.getElem?_cons_succ, List.getElem?_cons_succ]
theorem keysT_len : ∀ (l : List Tr), (keysT l).length = (l.length + 1) / 2
  | [] => by simp [keysT]
  | [t] => by simp [keysT]
  | t :: u :: r => by rw [keysT, List.length_cons, keysT_len r, List.length_cons, List.length_cons]; omega
theorem keysT_mem {l : List Tr} {t : Tr} (h : t ∈ keysT l) : t ∈ l := by
  obtain ⟨j, hj⟩ := List.mem_iff_getElem?.1 h
  rw [keysT_get] at hj
  exact List.mem_of_getElem? hj
theorem twice_iff (l : List Tr) : twice l = true ↔ ¬ l.Nodup := by
  induction l with
  | nil => simp [twice]
  | cons t r ih =>
    rw [twice, Bool.or_eq_true, ih, List.nodup_cons, List.any_eq_true]
    have : (∃ x, x ∈ r ∧ Tr.same t x = true) ↔ t ∈ r := by
      constructor
      · rintro ⟨x, h1, h2⟩
        rw [(same_iff t x).1 h2]; exact h1
      · exact fun h => ⟨t, h, same_self t⟩
    rw [this]
    exact ⟨fun h hn => h.elim (fun h => hn.1 h) (fun h => h hn.2), fun h => by
      by_cases h1 : t ∈ r
      · exact .inl h1
      · exact .inr fun h2 => h ⟨h1, h2⟩⟩
/-- is t one of the first i? -/
def hasT (l : List Tr) (t : Tr) : Bool := l.any fun x => Tr.same t x
theorem hasT_iff (l : List Tr) (t : Tr) : hasT l t = true ↔ t ∈ l := by
  unfold hasT
  rw [List.any_eq_true]
  constructor
  · rintro ⟨x, h1, h2⟩
    rw [(same_iff t x).1 h2]; exact h1
  · exact fun h => ⟨t, h, same_self t⟩
theorem nodup_snoc {l : List Tr} {i : Nat} {t : Tr} (h : l[i]? = some t) : (l.take (i + 1)).Nodup ↔ (l.take i).Nodup ∧ t ∉ l.take i := by
  rw [List.take_add_one, h, Option.toList_some, List.nodup_append]
  constructor
  · rintro ⟨h1, -, h3⟩
    exact ⟨h1, fun hm => h3 t hm t (by simp) rfl⟩
  · rintro ⟨h1, h2⟩
    refine ⟨h1, by simp, fun a ha b hb => ?_⟩
    rw [List.mem_singleton.1 hb]
    rintro rfl
    exact h2 ha
theorem not_nodup_of_take {l : List Tr} {i : Nat} (h : ¬ (l.take i).Nodup) : ¬ l.Nodup := fun hn => h (List.Sublist.nodup (List.take_sublist i l) hn)

mutual
/-- a tree's nodes, each ahead of those of its list. -/
def Tr.flat : Tr → List Tr | .nd p l => .nd p l :: flatL l
def flatL : List Tr → List Tr | [] => [] | t :: r => t.flat ++ flatL r
end
theorem flat_len (t : Tr) : t.flat.length = t.cnt := by
  induction t using Tr.ind with
  | h p l ih =>
    rw [Tr.flat, Tr.cnt, List.length_cons]
    congr 1
    induction l with
    | nil => rfl
    | cons t r ih2 => rw [flatL, cntL, List.length_append, ih t (List.mem_cons_self ..), ih2 fun t ht => ih t (List.mem_cons_of_mem _ ht)]
theorem flat_all (t : Tr) : t.all = t.flat.all fun x => ownP x.p x.l := by
  induction t using Tr.ind with
  | h p l ih =>
    rw [Tr.flat, Tr.all, List.all_cons]
    congr 1
    induction l with
    | nil => rfl
    | cons t r ih2 => rw [flatL, allL, List.all_append, ih t (List.mem_cons_self ..), ih2 fun t ht => ih t (List.mem_cons_of_mem _ ht)]
theorem flat_fit (t : Tr) (f : Int) : t.fit f = t.flat.all fun x => fitN x.p x.l f := by
  induction t using Tr.ind with
  | h p l ih =>
    rw [Tr.flat, Tr.fit, List.all_cons]
    congr 1
    induction l with
    | nil => rfl
    | cons t r ih2 => rw [flatL, fitL, List.all_append, ih t (List.mem_cons_self ..), ih2 fun t ht => ih t (List.mem_cons_of_mem _ ht)]
theorem flatL_append (a b : List Tr) : flatL (a ++ b) = flatL a ++ flatL b := by
  induction a with
  | nil => rfl
  | cons x r ih => rw [List.cons_append, flatL, flatL, ih, List.append_assoc]
theorem flatL_take_succ {l : List Tr} {i : Nat} {t : Tr} (h : l[i]? = some t) : flatL (l.take (i + 1)) = flatL (l.take i) ++ t.flat := by
  rw [List.take_add_one, h, Option.toList_some, flatL_append, flatL, flatL, List.append_nil]
theorem cnt_pos (t : Tr) : 1 ≤ t.cnt := by cases t; rw [Tr.cnt]; omega
/-- what a node of kind k is asked for; which functions answer: see the walk. -/
theorem ownP_none {p : Pay} {l : List Tr} (h : ¬ (1 ≤ p.k ∧ p.k ≤ 11)) : ownP p l = false := by
  unfold ownP
  rw [if_neg (by omega), if_neg (by omega), if_neg (by omega), if_neg (by omega), if_neg (by omega), if_neg (by omega), if_neg (by omega), if_neg (by omega), if_neg (by omega), if_neg (by omega), if_neg (by omega)]
/-- lists of trees in memory: cells, and what each leads to. -/
def ListAt (W : World) (a : Option Addr) (sl : Nat → Value) (l : List Tr) : Prop :=
  ∀ i t, l[i]? = some t → (∃ g o, a = some ⟨g, o, none⟩ ∧ AtN W g (o + i * 9) t.p (sl i)) ∧ InT W (ndV t.p (sl i)) t
theorem ListAt.up {W W' : World} (hb : Below W.heap.size W W') {a : Option Addr} {sl : Nat → Value} {l : List Tr} (h : ListAt W a sl l) : ListAt W' a sl l := fun i t hi => by
  obtain ⟨⟨g, o, h1, h2⟩, h3⟩ := h i t hi
  exact ⟨⟨g, o, h1, fun j x hj => cell_kept hb (h2 j x hj)⟩, h3.up hb⟩
theorem ListAt.take {W : World} {a : Option Addr} {sl : Nat → Value} {l : List Tr} (h : ListAt W a sl l) (k : Nat) : ListAt W a sl (l.take k) := fun i t hi => by
  rw [List.getElem?_take] at hi
  split at hi
  · exact h i t hi
  · cases hi
theorem InT.inv {W : World} {p : Pay} {sl : Value} {t : Tr} (h : InT W (ndV p sl) t) : ∃ l a n c f, t = .nd p l ∧ sl = .slice a n c ∧ n = l.length ∧ ListAt W a f l := by
  generalize hv : ndV p sl = v at h
  cases h with
  | nd q l a n c f hn hc ht =>
    unfold ndV at hv
    injection hv with hv
    have hv : ndL p sl = ndL q (.slice a n c) := by
      have := congrArg Array.toList hv
      simpa using this
    unfold ndL at hv
    obtain ⟨k, b, ng, dg, ex, u, w, s⟩ := p
    obtain ⟨k', b', ng', dg', ex', u', w', s'⟩ := q
    simp only [List.cons.injEq, Value.int.injEq, Value.bool.injEq, Value.string.injEq, true_and, and_true] at hv
    obtain ⟨rfl, rfl, rfl, rfl, rfl, hu, rfl, rfl, rfl⟩ := hv
    obtain rfl : u = u' := by omega
    exact ⟨l, a, n, c, f, rfl, rfl, hn, fun i t hi => ⟨hc i t hi, ht i t hi⟩⟩
theorem InT.mk {W : World} {p : Pay} {l : List Tr} {a : Option Addr} {n c : Nat} {f : Nat → Value} (hn : n = l.length) (h : ListAt W a f l) : InT W (ndV p (.slice a n c)) (.nd p l) :=
  .nd p l a n c f hn (fun i t hi => (h i t hi).1) (fun i t hi => (h i t hi).2)
/-- the nine cells of an element. -/
theorem AtN.cells {W : World} {g o : Nat} {p : Pay} {sl : Value} (h : AtN W g o p sl) : W.cell? ⟨g, o, none⟩ = some (.int .i64 p.k) ∧ W.cell? ⟨g, o + 1, none⟩ = some (.bool p.b) ∧ W.cell? ⟨g, o + 2, none⟩ = some (.bool p.n) ∧ W.cell? ⟨g, o + 3, none⟩ = some (.string p.dg) ∧
    W.cell? ⟨g, o + 4, none⟩ = some (.int .i64 p.ex) ∧ W.cell? ⟨g, o + 5, none⟩ = some (.int .u64 p.u) ∧ W.cell? ⟨g, o + 6, none⟩ = some (.int .i64 p.w) ∧ W.cell? ⟨g, o + 7, none⟩ = some (.string p.s) ∧ W.cell? ⟨g, o + 8, none⟩ = some sl :=
  ⟨h 0 _ rfl, h 1 _ rfl, h 2 _ rfl, h 3 _ rfl, h 4 _ rfl, h 5 _ rfl, h 6 _ rfl, h 7 _ rfl, h 8 _ rfl⟩
theorem AtN.up {W W' : World} (hb : Below W.heap.size W W') {g o : Nat} {p : Pay} {sl : Value} (h : AtN W g o p sl) : AtN W' g o p sl := fun j x hj => cell_kept hb (h j x hj)
theorem AtN.al {W : World} {g o : Nat} {p : Pay} {sl : Value} (h : AtN W g o p sl) (X : Obj) : AtN (W.alloc X) g o p sl := h.up (below_alloc W X)
end Go.Proofs.YtpjlepkdiaohiaaGreatDoor

/- Trees in memory that the call itself lays: in which blocks they lie; a list that is appended to. -/
namespace Go.Proofs.YtpjlepkdiaohiaaGreatDoor
open Go Go.RowKit

/-- a tree lies in memory under a node's value, its lists in blocks of K. -/
inductive InB (K : Nat → Prop) (W : World) : Value → Tr → Prop where
  | nd (p : Pay) (l : List Tr) (a : Option Addr) (n c : Nat) (sl : Nat → Value) (hn : n = l.length)
      (hc : ∀ i t, l[i]? = some t → ∃ g o, a = some ⟨g, o, none⟩ ∧ K g ∧ AtN W g (o + i * 9) t.p (sl i))
      (ht : ∀ i t, l[i]? = some t → InB K W (ndV t.p (sl i)) t) : InB K W (ndV p (.slice a n c)) (.nd p l)
theorem InB.toT {K : Nat → Prop} {W : World} {v : Value} {t : Tr} (h : InB K W v t) : InT W v t := by
  induction h with
  | nd p l a n c sl hn hc ht ih =>
    exact .nd p l a n c sl hn (fun i t hi => by obtain ⟨g, o, h1, -, h2⟩ := hc i t hi; exact ⟨g, o, h1, h2⟩) ih
theorem InB.mono {K K' : Nat → Prop} {W : World} {v : Value} {t : Tr} (h : InB K W v t) (hK : ∀ k, k < W.heap.size → K k → K' k) : InB K' W v t := by
  induction h with
  | nd p l a n c sl hn hc ht ih =>
    refine .nd p l a n c sl hn (fun i t hi => ?_) ih
    obtain ⟨g, o, h1, h2, h3⟩ := hc i t hi
    exact ⟨g, o, h1, hK g (World.block_lt_of_cell? W _ (h3 0 _ rfl)) h2, h3⟩
theorem InB.kept {K : Nat → Prop} {W W' : World} {v : Value} {t : Tr} (h : InB K W v t) (hK : ∀ k, k < W.heap.size → K k → W'.heap[k]? = W.heap[k]?) : InB K W' v t := by
  induction h with
  | nd p l a n c sl hn hc ht ih =>
    refine .nd p l a n c sl hn (fun i t hi => ?_) ih
    obtain ⟨g, o, h1, h2, h3⟩ := hc i t hi
    refine ⟨g, o, h1, h2, fun j x hj => ?_⟩
    have h4 := h3 j x hj
    rw [World.cell?_of_block (hK g (World.block_lt_of_cell? W _ h4) h2)]
    exact h4
theorem InB.up {K : Nat → Prop} {W W' : World} {v : Value} {t : Tr} (h : InB K W v t) (hb : Below W.heap.size W W') : InB K W' v t := h.kept fun k hk _ => hb.block k hk
theorem InT.toB {W : World} {v : Value} {t : Tr} (h : InT W v t) : InB (fun _ => True) W v t := by
  induction h with
  | nd p l a n c sl hn hc ht ih =>
    exact .nd p l a n c sl hn (fun i t hi => by obtain ⟨g, o, h1, h2⟩ := hc i t hi; exact ⟨g, o, h1, trivial, h2⟩) ih
/-- .. lies below the heap's end. -/
theorem InT.lt {W : World} {v : Value} {t : Tr} (h : InT W v t) : InB (fun k => k < W.heap.size) W v t := h.toB.mono fun _ hk _ => hk

/-- the cells of some nodes. -/
def zsC (zs : List (Value × Tr)) : List Value := zs.flatMap fun z => ndL z.2.p z.1
theorem zsC_cell : ∀ (zs : List (Value × Tr)) (i j : Nat) (z : Value × Tr) (x : Value), zs[i]? = some z → (ndL z.2.p z.1)[j]? = some x → (zsC zs)[i * 9 + j]? = some x
  | [], _, _, _, _, h, _ => by simp at h
  | y :: r, 0, j, z, x, h, hx => by
    obtain rfl : y = z := by simpa using h
    unfold zsC
    rw [List.flatMap_cons, show 0 * 9 + j = j by omega, List.getElem?_append_left]
    · exact hx
    · exact (List.getElem?_eq_some_iff.1 hx).1
  | y :: r, i + 1, j, z, x, h, hx => by
    have ih := zsC_cell r i j z x (by simpa using h) hx
    unfold zsC at ih ⊢
    rw [List.flatMap_cons, List.getElem?_append_right]
    · rw [show (i + 1) * 9 + j - (ndL y.2.p y.1).length = i * 9 + j by simp only [ndL, List.length_cons, List.length_nil]; omega]
      exact ih
    · simp only [ndL, List.length_cons, List.length_nil]; omega
theorem zsC_snoc (zs : List (Value × Tr)) (z : Value × Tr) : zsC (zs ++ [z]) = zsC zs ++ ndL z.2.p z.1 := by unfold zsC; simp
theorem zsC_len (zs : List (Value × Tr)) : (zsC zs).length = zs.length * 9 := by
  induction zs with
  | nil => rfl
  | cons y r ih =>
    unfold zsC at ih ⊢
    rw [List.flatMap_cons, List.length_append, ih, List.length_cons]
    simp only [ndL, List.length_cons, List.length_nil]
    omega
/-- a list of nodes that the call itself has laid: its row; where the nodes' own lists lie. -/
def OwnL (lo base : Nat) (W : World) (v : Value) (zs : List (Value × Tr)) : Prop :=
  W.ownsRow base 27 9 v zs.length (zsC zs) ∧ ∀ z, z ∈ zs → InB (fun k => lo ≤ k ∧ some k ≠ v.ownBlock) W (ndV z.2.p z.1) z.2
theorem OwnL.nil (lo base : Nat) (W : World) : OwnL lo base W (.slice none 0 0) [] := ⟨World.ownsRow_nil _ _ _ _, fun z h => by cases h⟩
theorem OwnL.shape {lo base : Nat} {W : World} {v : Value} {zs : List (Value × Tr)} (h : OwnL lo base W v zs) : ∃ a c, v = .slice a zs.length c ∧ zs.length ≤ c ∧ (∀ i z, zs[i]? = some z → ∃ g, a = some ⟨g, 0, none⟩ ∧ base ≤ g ∧ AtN W g (0 + i * 9) z.2.p z.1) := by
  rcases h.1.2 with ⟨rfl, h0⟩ | ⟨g, cap, cur, rfl, hb, hg, hn, hm, hs, ht⟩
  · refine ⟨none, 0, by rw [h0], by rw [h0]; exact Nat.le_refl _, fun i z hz => ?_⟩
    obtain rfl : zs = [] := List.length_eq_zero_iff.1 h0
    simp at hz
  · refine ⟨_, _, rfl, hn, fun i z hz => ⟨g, rfl, hb, fun j x hj => ?_⟩⟩
    have := h.1.cells (g := g) rfl (i * 9 + j) x (zsC_cell zs i j z x hz hj)
    rw [Go.Addr.add_lit, Nat.zero_add] at this
    rw [Nat.zero_add]
    exact this
theorem OwnL.inB {lo base : Nat} {W : World} {v : Value} {zs : List (Value × Tr)} (h : OwnL lo base W v zs) (hlo : lo ≤ base) (p : Pay) : InB (fun k => lo ≤ k) W (ndV p v) (.nd p (zs.map (·.2))) := by
  obtain ⟨a, c, rfl, -, h2⟩ := h.shape
  refine .nd p _ a _ c (fun i => ((zs[i]?).map (·.1)).getD (.bool false)) (by simp) (fun i t hi => ?_) (fun i t hi => ?_)
  · rw [List.getElem?_map, Option.map_eq_some_iff] at hi
    obtain ⟨z, hz, rfl⟩ := hi
    obtain ⟨g, h3, h4, h5⟩ := h2 i z hz
    refine ⟨g, 0, h3, Nat.le_trans hlo h4, ?_⟩
    simp only [hz, Option.map_some, Option.getD_some]
    exact h5
  · rw [List.getElem?_map, Option.map_eq_some_iff] at hi
    obtain ⟨z, hz, rfl⟩ := hi
    simp only [hz, Option.map_some, Option.getD_some]
    exact (h.2 z (List.mem_of_getElem? hz)).mono fun k _ hk => hk.1
/-- .. as a list that is read. -/
theorem OwnL.listAt {lo base : Nat} {W : World} {v : Value} {zs : List (Value × Tr)} (h : OwnL lo base W v zs) : ∃ a c f, v = .slice a zs.length c ∧ zs.length ≤ c ∧ ListAt W a f (zs.map (·.2)) := by
  obtain ⟨a, c, rfl, hc, h2⟩ := h.shape
  refine ⟨a, c, fun i => ((zs[i]?).map (·.1)).getD (.bool false), rfl, hc, fun i t hi => ?_⟩
  rw [List.getElem?_map, Option.map_eq_some_iff] at hi
  obtain ⟨z, hz, rfl⟩ := hi
  obtain ⟨g, h3, -, h5⟩ := h2 i z hz
  simp only [hz, Option.map_some, Option.getD_some]
  exact ⟨⟨g, 0, h3, h5⟩, (h.2 z (List.mem_of_getElem? hz)).toT⟩
/-- kept by whatever turns nothing that was. -/
theorem OwnL.up {lo base : Nat} {W W' : World} {v : Value} {zs : List (Value × Tr)} (h : OwnL lo base W v zs) (hb : Below W.heap.size W W') : OwnL lo base W' v zs := by
  refine ⟨h.1.kept (row := none) ⟨hb.os, hb.tape, hb.output, hb.size, fun k hk _ => hb.block k hk⟩ ?_, fun z hz => (h.2 z hz).up hb⟩
  cases hv : v.ownBlock <;> simp
/-- one more is appended: behind it. -/
theorem OwnL.snoc {lo base : Nat} {W W' : World} {v v' : Value} {zs : List (Value × Tr)} {z : Value × Tr} (h : OwnL lo base W v zs) (hz : InB (fun k => lo ≤ k ∧ some k ≠ v.ownBlock) W (ndV z.2.p z.1) z.2)
    (hown : W'.ownsRow base 27 9 v' (zs.length + 1) (zsC zs ++ ndL z.2.p z.1)) (hg : W.grownBy W' v.ownBlock) (hloc : v'.ownBlock = v.ownBlock ∨ ∀ k, v'.ownBlock = some k → W.heap.size ≤ k) : OwnL lo base W' v' (zs ++ [z]) := by
  refine ⟨by rw [zsC_snoc, List.length_append]; exact hown, fun y hy => ?_⟩
  have hy' : InB (fun k => lo ≤ k ∧ some k ≠ v.ownBlock) W (ndV y.2.p y.1) y.2 := by
    rcases List.mem_append.1 hy with h1 | h1
    · exact h.2 y h1
    · rw [List.mem_singleton.1 h1]; exact hz
  have hy2 : InB (fun k => (lo ≤ k ∧ some k ≠ v.ownBlock) ∧ some k ≠ v'.ownBlock) W (ndV y.2.p y.1) y.2 := hy'.mono fun k hk hk2 => ⟨hk2, fun e => by
    rcases hloc with h1 | h1
    · rw [h1] at e; exact hk2.2 e
    · have := h1 k e.symm; omega⟩
  have hy3 : InB (fun k => (lo ≤ k ∧ some k ≠ v.ownBlock) ∧ some k ≠ v'.ownBlock) W' (ndV y.2.p y.1) y.2 := hy2.kept fun k hk h1 => hg.block k hk h1.1.2
  exact hy3.mono fun k _ hk => ⟨hk.1.1, hk.2⟩
end Go.Proofs.YtpjlepkdiaohiaaGreatDoor

/- A tree that came in, opened: it lies in memory as a tree. -/
namespace Go.Proofs.YtpjlepkdiaohiaaGreatDoor
open Go Go.ChangeShapes Go.WideShapes Go.RowKit

/-- what a payload's parts may be. -/
def Pay.wf (p : Pay) : Prop := (-9223372036854775808 ≤ p.k ∧ p.k ≤ 9223372036854775807) ∧ p.dg.size ≤ 9223372036854775807 ∧ (-9223372036854775808 ≤ p.ex ∧ p.ex ≤ 9223372036854775807) ∧ p.u < 18446744073709551616 ∧ (-9223372036854775808 ≤ p.w ∧ p.w ≤ 9223372036854775807) ∧ p.s.size ≤ 9223372036854775807
inductive Tr.wf : Tr → Prop where
  | nd (p : Pay) (l : List Tr) (hp : p.wf) (hn : l.length ≤ 9223372036854775807) (hl : ∀ t, t ∈ l → Tr.wf t) : Tr.wf (.nd p l)
theorem wf_i64 {x : Int} (h : (Lit.int .i64 x).wf = true) : -9223372036854775808 ≤ x ∧ x ≤ 9223372036854775807 := by
  simpa [Lit.wf, IntKind.min, IntKind.max, IntKind.signed, IntKind.bits] using h
theorem wf_u64 {x : Int} (h : (Lit.int .u64 x).wf = true) : ∃ n : Nat, x = n ∧ n < 18446744073709551616 := by
  have : 0 ≤ x ∧ x ≤ 18446744073709551615 := by simpa [Lit.wf, IntKind.min, IntKind.max, IntKind.signed, IntKind.bits] using h
  exact ⟨x.toNat, by omega, by omega⟩
instance : Inhabited (Pay × Value × Tr) := ⟨⟨⟨0, false, false, ⟨#[]⟩, 0, 0, 0, ⟨#[]⟩⟩, .bool false, .nd ⟨0, false, false, ⟨#[]⟩, 0, 0, 0, ⟨#[]⟩⟩ []⟩⟩

set_option maxRecDepth 100000 in
theorem open_tr {H : Type} {enc : TypeId × Value → H} {w : World} {base : Nat} {sp : Nat → Bool} {hd : Bool} : ∀ (fuel : Nat) (cs : List Value) (x : DataW H × List MemPlace), DataW.trod enc Tryz.prog w base sp hd fuel 27 cs = some x →
    ∃ (p : Pay) (sl : Value) (l : List Tr), cs = ndL p sl ∧ InT w (ndV p sl) (.nd p l) ∧ Tr.wf (.nd p l) := by
  intro fuel
  induction fuel using Nat.strongRecOn with
  | _ fuel ih =>
    intro cs x h
    obtain ⟨xs, n, rfl, rfl, hlen, hxl, hf⟩ := DataW.trod_struct Tryz.underlying27 h
    have hC : Tryz.prog.cellsOf 27 = 9 := by kernel_rfl
    have c1 : Tryz.prog.cellsOf 3 = 1 := by kernel_rfl
    have c2 : Tryz.prog.cellsOf 4 = 1 := by kernel_rfl
    have c3 : Tryz.prog.cellsOf 23 = 3 := by kernel_rfl
    have c4 : Tryz.prog.cellsOf 24 = 1 := by kernel_rfl
    have c5 : Tryz.prog.cellsOf 9 = 1 := by kernel_rfl
    have c6 : Tryz.prog.cellsOf 25 = 1 := by kernel_rfl
    rw [hC] at hlen
    obtain ⟨v0, v1, v2, v3, v4, v5, v6, v7, v8, rfl⟩ : ∃ v0 v1 v2 v3 v4 v5 v6 v7 v8, cs = [v0, v1, v2, v3, v4, v5, v6, v7, v8] := by
      match cs, hlen with
      | [v0, v1, v2, v3, v4, v5, v6, v7, v8], _ => exact ⟨v0, v1, v2, v3, v4, v5, v6, v7, v8, rfl⟩
    obtain ⟨y0, y1, y2, y3, y4, y5, y6, rfl⟩ : ∃ y0 y1 y2 y3 y4 y5 y6, xs = [y0, y1, y2, y3, y4, y5, y6] := by
      match xs, hxl with
      | [y0, y1, y2, y3, y4, y5, y6], _ => exact ⟨y0, y1, y2, y3, y4, y5, y6, rfl⟩
    have f0 : DataW.trod enc Tryz.prog w base sp hd n 3 (([v0, v1, v2, v3, v4, v5, v6, v7, v8].drop 0).take (Tryz.prog.cellsOf 3)) = some y0 := hf 0 _ rfl
    rw [c1] at f0
    have f1 : DataW.trod enc Tryz.prog w base sp hd n 4 (([v0, v1, v2, v3, v4, v5, v6, v7, v8].drop 1).take (Tryz.prog.cellsOf 4)) = some y1 := hf 1 _ rfl
    rw [c2] at f1
    have f2 : DataW.trod enc Tryz.prog w base sp hd n 23 (([v0, v1, v2, v3, v4, v5, v6, v7, v8].drop 2).take (Tryz.prog.cellsOf 23)) = some y2 := hf 2 _ rfl
    rw [c3] at f2
    have f3 : DataW.trod enc Tryz.prog w base sp hd n 24 (([v0, v1, v2, v3, v4, v5, v6, v7, v8].drop 5).take (Tryz.prog.cellsOf 24)) = some y3 := hf 3 _ rfl
    rw [c4] at f3
    have f4 : DataW.trod enc Tryz.prog w base sp hd n 3 (([v0, v1, v2, v3, v4, v5, v6, v7, v8].drop 6).take (Tryz.prog.cellsOf 3)) = some y4 := hf 4 _ rfl
    rw [c1] at f4
    have f5 : DataW.trod enc Tryz.prog w base sp hd n 9 (([v0, v1, v2, v3, v4, v5, v6, v7, v8].drop 7).take (Tryz.prog.cellsOf 9)) = some y5 := hf 5 _ rfl
    rw [c5] at f5
    have f6 : DataW.trod enc Tryz.prog w base sp hd n 25 (([v0, v1, v2, v3, v4, v5, v6, v7, v8].drop 8).take (Tryz.prog.cellsOf 25)) = some y6 := hf 6 _ rfl
    rw [c6] at f6
    change DataW.trod enc Tryz.prog w base sp hd n 3 [v0] = some y0 at f0
    change DataW.trod enc Tryz.prog w base sp hd n 4 [v1] = some y1 at f1
    change DataW.trod enc Tryz.prog w base sp hd n 23 [v2, v3, v4] = some y2 at f2
    change DataW.trod enc Tryz.prog w base sp hd n 24 [v5] = some y3 at f3
    change DataW.trod enc Tryz.prog w base sp hd n 3 [v6] = some y4 at f4
    change DataW.trod enc Tryz.prog w base sp hd n 9 [v7] = some y5 at f5
    change DataW.trod enc Tryz.prog w base sp hd n 25 [v8] = some y6 at f6
    obtain ⟨k, e0, -, hk⟩ := DataW.trod_int Tryz.underlying3 f0
    obtain rfl := (List.cons.inj e0).1
    obtain ⟨b, e1, -⟩ := DataW.trod_bool Tryz.underlying4 f1
    obtain rfl := (List.cons.inj e1).1
    obtain ⟨zs, n2, rfl, -, -, hzl, hg⟩ := DataW.trod_struct Tryz.underlying23 f2
    obtain ⟨z0, z1, z2, rfl⟩ : ∃ z0 z1 z2, zs = [z0, z1, z2] := by
      match zs, hzl with
      | [z0, z1, z2], _ => exact ⟨z0, z1, z2, rfl⟩
    have g0 : DataW.trod enc Tryz.prog w base sp hd n2 4 (([v2, v3, v4].drop 0).take (Tryz.prog.cellsOf 4)) = some z0 := hg 0 _ rfl
    rw [c2] at g0
    have g1 : DataW.trod enc Tryz.prog w base sp hd n2 9 (([v2, v3, v4].drop 1).take (Tryz.prog.cellsOf 9)) = some z1 := hg 1 _ rfl
    rw [c5] at g1
    have g2 : DataW.trod enc Tryz.prog w base sp hd n2 3 (([v2, v3, v4].drop 2).take (Tryz.prog.cellsOf 3)) = some z2 := hg 2 _ rfl
    rw [c1] at g2
    change DataW.trod enc Tryz.prog w base sp hd n2 4 [v2] = some z0 at g0
    change DataW.trod enc Tryz.prog w base sp hd n2 9 [v3] = some z1 at g1
    change DataW.trod enc Tryz.prog w base sp hd n2 3 [v4] = some z2 at g2
    obtain ⟨ng, e2, -⟩ := DataW.trod_bool Tryz.underlying4 g0
    obtain rfl := (List.cons.inj e2).1
    obtain ⟨dg, e3, -, hdg⟩ := DataW.trod_string Tryz.underlying9 g1
    obtain rfl := (List.cons.inj e3).1
    obtain ⟨ex, e4, -, hex⟩ := DataW.trod_int Tryz.underlying3 g2
    obtain rfl := (List.cons.inj e4).1
    obtain ⟨u, e5, -, hu⟩ := DataW.trod_int Tryz.underlying24 f3
    obtain rfl := (List.cons.inj e5).1
    obtain ⟨wd, e6, -, hwd⟩ := DataW.trod_int Tryz.underlying3 f4
    obtain rfl := (List.cons.inj e6).1
    obtain ⟨s, e7, -, hs⟩ := DataW.trod_string Tryz.underlying9 f5
    obtain rfl := (List.cons.inj e7).1
    obtain ⟨un, rfl, hun⟩ := wf_u64 hu
    have hwf : Pay.wf ⟨k, b, ng, dg, ex, un, wd, s⟩ := ⟨wf_i64 hk, hdg, wf_i64 hex, hun, wf_i64 hwd, hs⟩
    rcases DataW.trod_slice Tryz.underlying25 f6 with ⟨e8, -⟩ | ⟨a, len, cap, elems, rest, n3, hn3, e8, -, -, hlc, hcm, hel, hat, -, -⟩
    · obtain rfl := (List.cons.inj e8).1
      exact ⟨⟨k, b, ng, dg, ex, un, wd, s⟩, .slice none 0 0, [], rfl, .nd _ _ _ _ _ (fun _ => .bool false) rfl (fun i t h => by simp at h) (fun i t h => by simp at h), .nd _ _ hwf (by simp) (fun t h => by cases h)⟩
    · obtain rfl := (List.cons.inj e8).1
      rw [hC] at hat
      obtain ⟨F, hF⟩ := Go.Deep.choose_lt (α := Pay × Value × Tr) (n := len) (p := fun i z => (∀ j, j < 9 → w.cell? (a.add (i * 9 + j)) = (ndL z.1 z.2.1)[j]?) ∧ z.2.2.p = z.1 ∧ InT w (ndV z.1 z.2.1) z.2.2 ∧ Tr.wf z.2.2) (fun i hi => by
        have h1 := hat i hi
        rw [List.getElem?_eq_getElem (by omega)] at h1
        obtain ⟨ci, h2, h3⟩ := Option.bind_eq_some_iff.1 h1
        obtain ⟨-, -, hcell⟩ := World.cells?_some h2
        obtain ⟨p, sl, l, rfl, h4, h5⟩ := ih n3 (by omega) ci _ h3
        refine ⟨⟨p, sl, .nd p l⟩, fun j hj => ?_, rfl, h4, h5⟩
        have := hcell j hj
        rw [← this]
        congr 1
        obtain ⟨ab, ao, asp⟩ := a
        unfold Addr.add
        dsimp only
        repeat' split
        all_goals (first | omega | (congr 1; omega) | (simp_all; done) | (simp_all; omega)))
      refine ⟨⟨k, b, ng, dg, ex, un, wd, s⟩, .slice (some a) len cap, (List.range len).map fun i => (F i).2.2, rfl, .nd _ _ _ _ _ (fun i => (F i).2.1) (by simp) (fun i t h => ?_) (fun i t h => ?_), .nd _ _ hwf (by simp; exact Nat.le_trans hlc hcm) (fun t h => ?_)⟩
      · obtain ⟨hi, rfl⟩ : i < len ∧ (F i).2.2 = t := by
          rw [List.getElem?_map, Option.map_eq_some_iff] at h
          obtain ⟨i', h1, h2⟩ := h
          obtain ⟨hi, h3⟩ := List.getElem?_eq_some_iff.1 h1
          rw [List.getElem_range] at h3
          subst h3
          exact ⟨by simpa using hi, h2⟩
        obtain ⟨h1, h2, -, -⟩ := hF i hi
        obtain ⟨g, o, spot⟩ := a
        have hspot : spot = none := by
          have := World.cell?_spot (((hF 0 (by omega)).1 0 (by omega)).trans rfl)
          exact this
        subst hspot
        refine ⟨g, o, rfl, fun j x hj => ?_⟩
        have hj9 : j < 9 := (List.getElem?_eq_some_iff.1 hj).1
        have := h1 j hj9
        rw [add_plain, ← Nat.add_assoc] at this
        rw [this, ← h2]
        exact hj
      · obtain ⟨hi, rfl⟩ : i < len ∧ (F i).2.2 = t := by
          rw [List.getElem?_map, Option.map_eq_some_iff] at h
          obtain ⟨i', h1, h2⟩ := h
          obtain ⟨hi, h3⟩ := List.getElem?_eq_some_iff.1 h1
          rw [List.getElem_range] at h3
          subst h3
          exact ⟨by simpa using hi, h2⟩
        obtain ⟨-, h2, h3, -⟩ := hF i hi
        rw [h2]
        exact h3
      · obtain ⟨i, hi, rfl⟩ := List.mem_map.1 h
        exact (hF i (List.mem_range.1 hi)).2.2.2
end Go.Proofs.YtpjlepkdiaohiaaGreatDoor

/- Plain: trees cut short. -/
namespace Go.Proofs.YtpjlepkdiaohiaaGreatDoor
open Go Go.RowKit

/-- trees as the statements' own helper makes them: texts and lists are short. -/
def Pay.fine (p : Pay) : Prop := (-9223372036854775808 ≤ p.k ∧ p.k ≤ 9223372036854775807) ∧ p.dg.size ≤ 200 ∧ (-9223372036854775808 ≤ p.ex ∧ p.ex ≤ 9223372036854775807) ∧ p.u < 18446744073709551616 ∧ (-9223372036854775808 ≤ p.w ∧ p.w ≤ 9223372036854775807) ∧ p.s.size ≤ 10000
inductive Tr.fine : Tr → Prop where
  | nd (p : Pay) (l : List Tr) (hp : p.fine) (hn : l.length ≤ 10000) (hl : ∀ t, t ∈ l → Tr.fine t) : Tr.fine (.nd p l)
theorem Tr.fine.pay {p : Pay} {l : List Tr} (h : Tr.fine (.nd p l)) : p.fine := by cases h; assumption
theorem Tr.fine.len {p : Pay} {l : List Tr} (h : Tr.fine (.nd p l)) : l.length ≤ 10000 := by cases h; assumption
theorem Tr.fine.sub {p : Pay} {l : List Tr} (h : Tr.fine (.nd p l)) {t : Tr} (ht : t ∈ l) : t.fine := by cases h with | nd _ _ _ _ hl => exact hl t ht
/-- a text's first letters. -/
def tpre (k : Nat) (s : ByteArray) : ByteArray := s.extract 0 (min s.size k)
theorem tpre_size (k : Nat) (s : ByteArray) : (tpre k s).size ≤ k := by
  rw [← len_str, show (tpre k s).data.toList = tx (tpre k s) from rfl, show tx (tpre k s) = (tx s).take (min s.size k) from extract_take s _, List.length_take]
  omega
def Pay.cut (p : Pay) : Pay := { p with dg := tpre 200 p.dg, s := tpre 410 p.s }
def cutD : Nat → Tr → Tr
  | 0, t => .nd t.p.cut []
  | j + 1, t => .nd t.p.cut ((t.l.take 40).map (cutD j))
def fewT (t : Tr) : Tr := if 400 < wrapI (cutD 17 t).cnt then .nd (cutD 17 t).p [] else cutD 17 t
theorem cut_fine {p : Pay} (h : p.wf) : p.cut.fine := ⟨h.1, tpre_size _ _, h.2.2.1, h.2.2.2.1, h.2.2.2.2.1, Nat.le_trans (tpre_size _ _) (by decide)⟩
theorem Tr.wf.pay {t : Tr} (h : t.wf) : t.p.wf := by cases h; assumption
theorem Tr.wf.sub {t u : Tr} (h : t.wf) (hu : u ∈ t.l) : u.wf := by cases h with | nd _ _ _ _ hl => exact hl u hu
theorem cutD_fine : ∀ (j : Nat) (t : Tr), t.wf → (cutD j t).fine
  | 0, t, h => .nd _ _ (cut_fine h.pay) (by simp) (fun t h => by cases h)
  | j + 1, t, h => .nd _ _ (cut_fine h.pay) (by rw [List.length_map, List.length_take]; omega) (fun u hu => by
      obtain ⟨v, hv, rfl⟩ := List.mem_map.1 hu
      exact cutD_fine j v (h.sub (List.mem_of_mem_take hv)))
theorem depL_le {l : List Tr} {d : Nat} (h : ∀ t, t ∈ l → t.dep ≤ d) : depL l ≤ d := by
  induction l with
  | nil => exact Nat.zero_le _
  | cons t r ih => rw [depL]; exact Nat.max_le.2 ⟨h t (List.mem_cons_self ..), ih fun u hu => h u (List.mem_cons_of_mem _ hu)⟩
theorem cutD_dep : ∀ (j : Nat) (t : Tr), (cutD j t).dep ≤ j + 1
  | 0, t => by rw [cutD, Tr.dep, depL]; omega
  | j + 1, t => by
    rw [cutD, Tr.dep]
    have : depL ((t.l.take 40).map (cutD j)) ≤ j + 1 := depL_le fun u hu => by
      obtain ⟨v, -, rfl⟩ := List.mem_map.1 hu
      exact cutD_dep j v
    omega
theorem few_fine {t : Tr} (h : t.wf) : (fewT t).fine := by
  have hc := cutD_fine 17 t h
  unfold fewT
  split
  · refine .nd _ _ ?_ (by simp) (fun t h => by cases h)
    rw [Tr.eta (cutD 17 t)] at hc
    exact hc.pay
  · exact hc
theorem few_dep (t : Tr) : (fewT t).dep ≤ 18 := by
  unfold fewT
  split
  · rw [Tr.dep, depL]; omega
  · exact cutD_dep 17 t
theorem few_cnt (t : Tr) : wrapI (fewT t).cnt ≤ 400 := by
  unfold fewT
  split
  · rw [Tr.cnt, cntL]; decide
  · omega
theorem cntL_append (l m : List Tr) : cntL (l ++ m) = cntL l + cntL m := by
  induction l with
  | nil => simp [cntL]
  | cons t r ih => rw [List.cons_append, cntL, cntL, ih]; omega
theorem cntL_take_succ {l : List Tr} {i : Nat} {t : Tr} (h : l[i]? = some t) : cntL (l.take (i + 1)) = cntL (l.take i) + t.cnt := by
  rw [List.take_add_one, h, Option.toList_some, cntL_append, cntL, cntL]; omega
theorem depL_append (l m : List Tr) : depL (l ++ m) = max (depL l) (depL m) := by
  induction l with
  | nil => simp [depL]
  | cons t r ih => rw [List.cons_append, depL, depL, ih, Nat.max_assoc]
theorem depL_take_succ {l : List Tr} {i : Nat} {t : Tr} (h : l[i]? = some t) : depL (l.take (i + 1)) = max (depL (l.take i)) t.dep := by
  rw [List.take_add_one, h, Option.toList_some, depL_append, depL, depL, Nat.max_zero]
end Go.Proofs.YtpjlepkdiaohiaaGreatDoor

