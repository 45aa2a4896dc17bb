/- Plain arithmetic, with no program in sight: naturals as decimal digits and as groups of nine digits (limbs). -/
import Derived.Lib.ItoaNum
import Derived.Lib.ParseIntB
namespace Go.Proofs.YtbopikeoaokdpaaDoor
open Go

/-! ### digits -/

theorem dec_small {u : Nat} (h : u < 10) : Lib.decDigits u = [UInt8.ofNat (48 + u)] := by rw [Lib.decDigits, dif_pos h]
theorem dec_big {u : Nat} (h : ¬ u < 10) : Lib.decDigits u = Lib.decDigits (u / 10) ++ [UInt8.ofNat (48 + u % 10)] := by rw [Lib.decDigits, dif_neg h]

theorem byte_toNat {n : Nat} (h : n < 256) : (UInt8.ofNat n).toNat = n := by
  rw [UInt8.toNat_ofNat']; exact Nat.mod_eq_of_lt h

/-- is a byte a digit? -/
def isDg (c : UInt8) : Bool := decide (48 ≤ c.toNat) && decide (c.toNat ≤ 57)

/-- the number that digits spell, behind a number. -/
def nvA (a : Nat) (s : List UInt8) : Nat := s.foldl (fun a c => a * 10 + (c.toNat - 48)) a
theorem nvA_nil (a : Nat) : nvA a [] = a := by unfold nvA; exact List.foldl_nil
theorem nvA_cons (a : Nat) (c : UInt8) (r : List UInt8) : nvA a (c :: r) = nvA (a * 10 + (c.toNat - 48)) r := by unfold nvA; exact List.foldl_cons ..
def nv (s : List UInt8) : Nat := nvA 0 s

theorem nvA_append (a : Nat) (s t : List UInt8) : nvA a (s ++ t) = nvA (nvA a s) t := by
  unfold nvA; rw [List.foldl_append]

theorem nvA_eq (a : Nat) (s : List UInt8) : nvA a s = a * 10 ^ s.length + nv s := by
  unfold nv
  induction s generalizing a with
  | nil => simp [nvA_nil]
  | cons c r ih =>
    simp only [nvA_cons, List.length_cons]
    rw [ih (a * 10 + (c.toNat - 48)), ih (0 * 10 + (c.toNat - 48)), Nat.pow_succ]
    generalize 10 ^ r.length = q
    generalize nvA 0 r = x
    generalize c.toNat - 48 = d
    have h1 : (a * 10 + d) * q = a * (q * 10) + d * q := by rw [Nat.add_mul, Nat.mul_assoc, Nat.mul_comm 10 q]
    have h2 : (0 * 10 + d) * q = d * q := by rw [Nat.zero_mul, Nat.zero_add]
    omega

theorem nv_append (s t : List UInt8) : nv (s ++ t) = nv s * 10 ^ t.length + nv t := by
  unfold nv; rw [nvA_append, nvA_eq]; rfl

theorem nv_snoc (s : List UInt8) (c : UInt8) : nv (s ++ [c]) = nv s * 10 + (c.toNat - 48) := by
  rw [nv_append]; simp [nv, nvA_nil, nvA_cons]

theorem nv_dec (u : Nat) : nv (Lib.decDigits u) = u := by
  induction u using Nat.strongRecOn with
  | _ u ih =>
    by_cases h : u < 10
    · rw [dec_small h]; simp only [nv, nvA_cons, nvA_nil]; rw [byte_toNat (by omega)]; omega
    · rw [dec_big h, nv_snoc, ih (u / 10) (by omega), byte_toNat (by omega)]; omega

theorem dec_inj {a b : Nat} (h : Lib.decDigits a = Lib.decDigits b) : a = b := by
  rw [← nv_dec a, ← nv_dec b, h]

theorem dec_ne_nil (u : Nat) : Lib.decDigits u ≠ [] := by
  by_cases h : u < 10
  · rw [dec_small h]; simp
  · rw [dec_big h]; simp

theorem dec_isDg (u : Nat) : ∀ c ∈ Lib.decDigits u, isDg c = true := by
  induction u using Nat.strongRecOn with
  | _ u ih =>
    intro c hc
    by_cases h : u < 10
    · rw [dec_small h] at hc; obtain rfl := List.mem_singleton.1 hc
      unfold isDg; rw [byte_toNat (by omega)]; simp; omega
    · rw [dec_big h] at hc
      rcases List.mem_append.1 hc with hc | hc
      · exact ih (u / 10) (by omega) c hc
      · obtain rfl := List.mem_singleton.1 hc
        unfold isDg; rw [byte_toNat (by omega)]; simp; omega

theorem head_app {r s : List UInt8} (h : r ≠ []) : (r ++ s).head? = r.head? := by
  cases r with
  | nil => exact absurd rfl h
  | cons c r => rfl

/-- no zero ahead, unless it is 0 itself. -/
theorem dec_head {u : Nat} (h : 10 ≤ u) : (Lib.decDigits u).head? ≠ some 48 := by
  induction u using Nat.strongRecOn with
  | _ u ih =>
    rw [dec_big (by omega)]
    by_cases h2 : u / 10 < 10
    · rw [dec_small h2]
      simp
      intro hh
      have := congrArg UInt8.toNat hh
      rw [byte_toNat (by omega)] at this
      simp at this
      omega
    · have := ih (u / 10) (by omega) (by omega)
      intro hh
      apply this
      have hne := dec_ne_nil (u / 10)
      rw [head_app hne] at hh
      exact hh

/-- what a natural's text is like. -/
def isRt (s : List UInt8) : Bool := decide (1 ≤ s.length) && decide (s.length ≤ 400) && !(decide (1 < s.length) && s.head? == some 48) && s.all isDg

/-- digits without a zero ahead are a number's. -/
theorem dec_nv (s : List UInt8) (h1 : s ≠ []) (hz : 1 < s.length → s.head? ≠ some 48) (hd : ∀ c ∈ s, isDg c = true) : Lib.decDigits (nv s) = s ∧ (1 < s.length → 10 ≤ nv s) := by
  have key : ∀ n, ∀ s : List UInt8, s.length = n → s ≠ [] → (1 < s.length → s.head? ≠ some 48) → (∀ c ∈ s, isDg c = true) → Lib.decDigits (nv s) = s ∧ (1 < s.length → 10 ≤ nv s) := by
    intro n
    induction n with
    | zero => intro s hs h1; exact absurd (List.eq_nil_of_length_eq_zero hs) h1
    | succ n ih =>
      intro s hs h1 hz hd
      obtain ⟨r, c, rfl⟩ : ∃ r c, s = r ++ [c] := ⟨s.dropLast, s.getLast h1, (List.dropLast_concat_getLast h1).symm⟩
      have hc := hd c (by simp)
      simp only [isDg, Bool.and_eq_true, decide_eq_true_eq] at hc
      have hcc : UInt8.ofNat (48 + (c.toNat - 48)) = c := by
        rw [show 48 + (c.toNat - 48) = c.toNat from by omega]; simp
      rw [nv_snoc]
      by_cases hr : r = []
      · subst hr
        simp only [nv, nvA_nil, List.nil_append, List.length_cons, List.length_nil]
        rw [dec_small (by omega)]
        rw [show 48 + (0 * 10 + (c.toNat - 48)) = 48 + (c.toNat - 48) from by omega, hcc]
        exact ⟨rfl, by omega⟩
      · have hl : r.length = n := by simpa using hs
        have hz' : r.head? ≠ some 48 := by
          have := hz (by have := List.length_pos_iff.2 hr; simp; omega)
          rwa [head_app hr] at this
        obtain ⟨e1, e2⟩ := ih r hl hr (fun _ => hz') (fun x hx => hd x (by simp [hx]))
        have hpos : 1 ≤ nv r := by
          by_cases h1r : 1 < r.length
          · have := e2 h1r; omega
          · -- one digit, not 0
            obtain ⟨x, rfl⟩ : ∃ x, r = [x] := by
              match r, hr, h1r with
              | [x], _, _ => exact ⟨x, rfl⟩
              | [], h, _ => exact absurd rfl h
              | _ :: _ :: _, _, h => simp at h
            have hx := hd x (by simp)
            simp only [isDg, Bool.and_eq_true, decide_eq_true_eq] at hx
            simp only [nv, nvA_cons, nvA_nil]
            have : x ≠ 48 := by intro e; subst e; simp at hz'
            have h48 : x.toNat ≠ 48 := fun e => this (by rw [← UInt8.toNat_inj]; exact e)
            omega
        have hge : ¬ nv r * 10 + (c.toNat - 48) < 10 := by omega
        refine ⟨?_, fun _ => by omega⟩
        rw [dec_big hge, show (nv r * 10 + (c.toNat - 48)) / 10 = nv r from by omega, e1, show (nv r * 10 + (c.toNat - 48)) % 10 = c.toNat - 48 from by omega, hcc]
  exact key s.length s rfl h1 hz hd

theorem isRt_iff (s : List UInt8) : isRt s = true ↔ s = Lib.decDigits (nv s) ∧ s.length ≤ 400 := by
  constructor
  · intro h
    simp only [isRt, Bool.and_eq_true, decide_eq_true_eq, Bool.not_eq_true', List.all_eq_true] at h
    obtain ⟨⟨⟨h1, h2⟩, h3⟩, h4⟩ := h
    refine ⟨(dec_nv s (by intro e; subst e; simp at h1) (fun hl hh => ?_) h4).1.symm, h2⟩
    rw [hh] at h3
    simp [hl] at h3
  · rintro ⟨h1, h2⟩
    have hne := dec_ne_nil (nv s)
    rw [← h1] at hne
    simp only [isRt, Bool.and_eq_true, decide_eq_true_eq, Bool.not_eq_true', List.all_eq_true]
    refine ⟨⟨⟨List.length_pos_iff.2 hne, h2⟩, ?_⟩, fun c hc => dec_isDg (nv s) c (by rw [← h1]; exact hc)⟩
    by_cases hl : 1 < s.length
    · have : 10 ≤ nv s := by
        by_cases h10 : nv s < 10
        · rw [dec_small h10] at h1; rw [h1] at hl; simp at hl
        · omega
      have := dec_head this
      rw [← h1] at this
      simp [this]
    · simp [hl]

theorem nvA_ge (a : Nat) (s : List UInt8) : a ≤ nvA a s := by
  rw [nvA_eq]
  have : a * 1 ≤ a * 10 ^ s.length := Nat.mul_le_mul_left _ (Nat.pow_pos (by omega))
  omega

/-- strconv.ParseUint at digits. -/
theorem parse_ok {M : Nat} (hM : M ≤ 18446744073709551615) : ∀ (g : List UInt8) (a : Nat), (∀ c ∈ g, isDg c = true) → nvA a g ≤ M → Lib.parseUintM M a g = .ok (nvA a g)
  | [], a, _, _ => by rw [nvA_nil]; rfl
  | c :: r, a, hd, h => by
    have hc := hd c (by simp)
    simp only [isDg, Bool.and_eq_true, decide_eq_true_eq] at hc
    rw [nvA_cons] at h ⊢
    have hge := nvA_ge (a * 10 + (c.toNat - 48)) r
    rw [Lib.parseUintM, if_pos hc, if_neg (by omega), if_neg (by omega)]
    exact parse_ok hM r _ (fun x hx => hd x (by simp [hx])) h
theorem parse_range {M : Nat} : ∀ (g : List UInt8) (a : Nat), (∀ c ∈ g, isDg c = true) → a ≤ M → M < nvA a g → Lib.parseUintM M a g = .range
  | [], a, _, h1, h2 => by rw [nvA_nil] at h2; omega
  | c :: r, a, hd, h1, h2 => by
    have hc := hd c (by simp)
    simp only [isDg, Bool.and_eq_true, decide_eq_true_eq] at hc
    rw [nvA_cons] at h2
    rw [Lib.parseUintM, if_pos hc]
    by_cases e1 : 1844674407370955162 ≤ a
    · rw [if_pos e1]
    · rw [if_neg e1]
      by_cases e2 : M < a * 10 + (c.toNat - 48)
      · rw [if_pos e2]
      · rw [if_neg e2]
        exact parse_range r _ (fun x hx => hd x (by simp [hx])) (by omega) h2

theorem parse64 {g : List UInt8} (h0 : g ≠ []) (hd : ∀ c ∈ g, isDg c = true) : Lib.parseUintB 64 g = if nv g < 18446744073709551616 then .ok (nv g) else .range := by
  unfold Lib.parseUintB
  rw [if_neg h0]
  by_cases h : nv g < 18446744073709551616
  · rw [if_pos h]
    exact parse_ok (by decide) g 0 hd (by unfold nv at h; simp only [Nat.reducePow, Nat.reduceSub]; omega)
  · rw [if_neg h]
    exact parse_range g 0 hd (by omega) (by unfold nv at h; simp only [Nat.reducePow, Nat.reduceSub]; omega)
theorem parse32 {g : List UInt8} (h0 : g ≠ []) (hd : ∀ c ∈ g, isDg c = true) (h : nv g < 1000000000) : Lib.parseUintB 32 g = .ok (nv g) := by
  unfold Lib.parseUintB
  rw [if_neg h0]
  exact parse_ok (by decide) g 0 hd (by unfold nv at h; simp only [Nat.reducePow, Nat.reduceSub]; omega)

/-- a natural's digits, unless they are too many; the error. -/
def fitS (n : Nat) : List UInt8 := if Lib.nDigits n ≤ 400 then Lib.decDigits n else []
def fitE (n : Nat) : Int := if Lib.nDigits n ≤ 400 then 0 else 11
def powS (b : Nat) (x : Int) : List UInt8 := if 0 ≤ x ∧ x ≤ 400 then fitS (b ^ x.toNat) else []
def powE (b : Nat) (x : Int) : Int := if 0 ≤ x ∧ x ≤ 400 then fitE (b ^ x.toNat) else 10
end Go.Proofs.YtbopikeoaokdpaaDoor
