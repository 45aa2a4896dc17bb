/- Plain arithmetic, with no program in sight: naturals as decimal digits and as groups of nine digits (limbs). -/
import Derived.Lib.ItoaNum
import Derived.Lib.ParseIntB
import Derived.Test.YtpjlepkdiaohiaaGreatDoorProg
import Derived.Test.YtpjlepkdiaohiaaGreatDoorShelf
import Derived.WalkKit
import Derived.WalkSpells
import Derived.WalkLawsBesides
import Derived.Outline
import Derived.Deep.DeepFit
import Derived.Deep.DeepMust
import Derived.Deep.QuietTactic
import Derived.Deep.RegionHeld3
import Derived.BigQuiet
import Derived.BigRegion
import Derived.RangeFuncNested
import Derived.RangeFuncBound
import Derived.RangeFuncCalls
import Derived.RangeFuncLeaves
import Derived.CallsIn
import Derived.RangeFuncBox
import Derived.Lib.FrozenHead
import Derived.Lib.OthersKept
import Derived.Lib.AppendIntMem
namespace Go.Proofs.YtpjlepkdiaohiaaGreatDoor
open Go

/-! ### digits -/

theorem dec_small {u : Nat} (h : u < 10) : Lib.decDigits u = [UInt8.ofNat (48 + u)] := by rw [Lib.decDigits, dif_pos h]
theorem dec_big {u : Nat} (h : ¬ u < 10) : Lib.decDigits u = Lib.decDigits (u / 10) ++ [UInt8.ofNat (48 + u % 10)] := by rw [Lib.decDigits, dif_neg h]

theorem byte_toNat {n : Nat} (h : n < 256) : (UInt8.ofNat n).toNat = n := by
  rw [UInt8.toNat_ofNat']; exact Nat.mod_eq_of_lt h

/-- is a byte a digit? -/
def isDg (c : UInt8) : Bool := decide (48 ≤ c.toNat) && decide (c.toNat ≤ 57)

/-- the number that digits spell, behind a number. -/
def nvA (a : Nat) (s : List UInt8) : Nat := s.foldl (fun a c => a * 10 + (c.toNat - 48)) a
theorem nvA_nil (a : Nat) : nvA a [] = a := by unfold nvA; exact List.foldl_nil
theorem nvA_cons (a : Nat) (c : UInt8) (r : List UInt8) : nvA a (c :: r) = nvA (a * 10 + (c.toNat - 48)) r := by unfold nvA; exact List.foldl_cons ..
def nv (s : List UInt8) : Nat := nvA 0 s

theorem nvA_append (a : Nat) (s t : List UInt8) : nvA a (s ++ t) = nvA (nvA a s) t := by
  unfold nvA; rw [List.foldl_append]

theorem nvA_eq (a : Nat) (s : List UInt8) : nvA a s = a * 10 ^ s.length + nv s := by
  unfold nv
  induction s generalizing a with
  | nil => simp [nvA_nil]
  | cons c r ih =>
    simp only [nvA_cons, List.length_cons]
    rw [ih (a * 10 + (c.toNat - 48)), ih (0 * 10 + (c.toNat - 48)), Nat.pow_succ]
    generalize 10 ^ r.length = q
    generalize nvA 0 r = x
    generalize c.toNat - 48 = d
    have h1 : (a * 10 + d) * q = a * (q * 10) + d * q := by rw [Nat.add_mul, Nat.mul_assoc, Nat.mul_comm 10 q]
    have h2 : (0 * 10 + d) * q = d * q := by rw [Nat.zero_mul, Nat.zero_add]
    omega

theorem nv_append (s t : List UInt8) : nv (s ++ t) = nv s * 10 ^ t.length + nv t := by
  unfold nv; rw [nvA_append, nvA_eq]; rfl

theorem nv_snoc (s : List UInt8) (c : UInt8) : nv (s ++ [c]) = nv s * 10 + (c.toNat - 48) := by
  rw [nv_append]; simp [nv, nvA_nil, nvA_cons]

theorem nv_dec (u : Nat) : nv (Lib.decDigits u) = u := by
  induction u using Nat.strongRecOn with
  | _ u ih =>
    by_cases h : u < 10
    · rw [dec_small h]; simp only [nv, nvA_cons, nvA_nil]; rw [byte_toNat (by omega)]; omega
    · rw [dec_big h, nv_snoc, ih (u / 10) (by omega), byte_toNat (by omega)]; omega

theorem dec_inj {a b : Nat} (h : Lib.decDigits a = Lib.decDigits b) : a = b := by
  rw [← nv_dec a, ← nv_dec b, h]

theorem dec_ne_nil (u : Nat) : Lib.decDigits u ≠ [] := by
  by_cases h : u < 10
  · rw [dec_small h]; simp
  · rw [dec_big h]; simp

theorem dec_isDg (u : Nat) : ∀ c ∈ Lib.decDigits u, isDg c = true := by
  induction u using Nat.strongRecOn with
  | _ u ih =>
    intro c hc
    by_cases h : u < 10
    · rw [dec_small h] at hc; obtain rfl := List.mem_singleton.1 hc
      unfold isDg; rw [byte_toNat (by omega)]; simp; omega
    · rw [dec_big h] at hc
      rcases List.mem_append.1 hc with hc | hc
      · exact ih (u / 10) (by omega) c hc
      · obtain rfl := List.mem_singleton.1 hc
        unfold isDg; rw [byte_toNat (by omega)]; simp; omega

theorem head_app {r s : List UInt8} (h : r ≠ []) : (r ++ s).head? = r.head? := by
  cases r with
  | nil => exact absurd rfl h
  | cons c r => rfl

/-- no zero ahead, unless it is 0 itself. -/
theorem dec_head {u : Nat} (h : 10 ≤ u) : (Lib.decDigits u).head? ≠ some 48 := by
  induction u using Nat.strongRecOn with
  | _ u ih =>
    rw [dec_big (by omega)]
    by_cases h2 : u / 10 < 10
    · rw [dec_small h2]
      simp
      intro hh
      have := congrArg UInt8.toNat hh
      rw [byte_toNat (by omega)] at this
      simp at this
      omega
    · have := ih (u / 10) (by omega) (by omega)
      intro hh
      apply this
      have hne := dec_ne_nil (u / 10)
      rw [head_app hne] at hh
      exact hh

/-- what a natural's text is like. -/
def isRt (s : List UInt8) : Bool := decide (1 ≤ s.length) && decide (s.length ≤ 400) && !(decide (1 < s.length) && s.head? == some 48) && s.all isDg

/-- digits without a zero ahead are a number's. -/
theorem dec_nv (s : List UInt8) (h1 : s ≠ []) (hz : 1 < s.length → s.head? ≠ some 48) (hd : ∀ c ∈ s, isDg c = true) : Lib.decDigits (nv s) = s ∧ (1 < s.length → 10 ≤ nv s) := by
  have key : ∀ n, ∀ s : List UInt8, s.length = n → s ≠ [] → (1 < s.length → s.head? ≠ some 48) → (∀ c ∈ s, isDg c = true) → Lib.decDigits (nv s) = s ∧ (1 < s.length → 10 ≤ nv s) := by
    intro n
    induction n with
    | zero => intro s hs h1; exact absurd (List.eq_nil_of_length_eq_zero hs) h1
    | succ n ih =>
      intro s hs h1 hz hd
      obtain ⟨r, c, rfl⟩ : ∃ r c, s = r ++ [c] := ⟨s.dropLast, s.getLast h1, (List.dropLast_concat_getLast h1).symm⟩
      have hc := hd c (by simp)
      simp only [isDg, Bool.and_eq_true, decide_eq_true_eq] at hc
      have hcc : UInt8.ofNat (48 + (c.toNat - 48)) = c := by
        rw [show 48 + (c.toNat - 48) = c.toNat from by omega]; simp
      rw [nv_snoc]
      by_cases hr : r = []
      · subst hr
        simp only [nv, nvA_nil, List.nil_append, List.length_cons, List.length_nil]
        rw [dec_small (by omega)]
        rw [show 48 + (0 * 10 + (c.toNat - 48)) = 48 + (c.toNat - 48) from by omega, hcc]
        exact ⟨rfl, by omega⟩
      · have hl : r.length = n := by simpa using hs
        have hz' : r.head? ≠ some 48 := by
          have := hz (by have := List.length_pos_iff.2 hr; simp; omega)
          rwa [head_app hr] at this
        obtain ⟨e1, e2⟩ := ih r hl hr (fun _ => hz') (fun x hx => hd x (by simp [hx]))
        have hpos : 1 ≤ nv r := by
          by_cases h1r : 1 < r.length
          · have := e2 h1r; omega
          · -- one digit, not 0
            obtain ⟨x, rfl⟩ : ∃ x, r = [x] := by
              match r, hr, h1r with
              | [x], _, _ => exact ⟨x, rfl⟩
              | [], h, _ => exact absurd rfl h
              | _ :: _ :: _, _, h => simp at h
            have hx := hd x (by simp)
            simp only [isDg, Bool.and_eq_true, decide_eq_true_eq] at hx
            simp only [nv, nvA_cons, nvA_nil]
            have : x ≠ 48 := by intro e; subst e; simp at hz'
            have h48 : x.toNat ≠ 48 := fun e => this (by rw [← UInt8.toNat_inj]; exact e)
            omega
        have hge : ¬ nv r * 10 + (c.toNat - 48) < 10 := by omega
        refine ⟨?_, fun _ => by omega⟩
        rw [dec_big hge, show (nv r * 10 + (c.toNat - 48)) / 10 = nv r from by omega, e1, show (nv r * 10 + (c.toNat - 48)) % 10 = c.toNat - 48 from by omega, hcc]
  exact key s.length s rfl h1 hz hd

theorem isRt_iff (s : List UInt8) : isRt s = true ↔ s = Lib.decDigits (nv s) ∧ s.length ≤ 400 := by
  constructor
  · intro h
    simp only [isRt, Bool.and_eq_true, decide_eq_true_eq, Bool.not_eq_true', List.all_eq_true] at h
    obtain ⟨⟨⟨h1, h2⟩, h3⟩, h4⟩ := h
    refine ⟨(dec_nv s (by intro e; subst e; simp at h1) (fun hl hh => ?_) h4).1.symm, h2⟩
    rw [hh] at h3
    simp [hl] at h3
  · rintro ⟨h1, h2⟩
    have hne := dec_ne_nil (nv s)
    rw [← h1] at hne
    simp only [isRt, Bool.and_eq_true, decide_eq_true_eq, Bool.not_eq_true', List.all_eq_true]
    refine ⟨⟨⟨List.length_pos_iff.2 hne, h2⟩, ?_⟩, fun c hc => dec_isDg (nv s) c (by rw [← h1]; exact hc)⟩
    by_cases hl : 1 < s.length
    · have : 10 ≤ nv s := by
        by_cases h10 : nv s < 10
        · rw [dec_small h10] at h1; rw [h1] at hl; simp at hl
        · omega
      have := dec_head this
      rw [← h1] at this
      simp [this]
    · simp [hl]

theorem nvA_ge (a : Nat) (s : List UInt8) : a ≤ nvA a s := by
  rw [nvA_eq]
  have : a * 1 ≤ a * 10 ^ s.length := Nat.mul_le_mul_left _ (Nat.pow_pos (by omega))
  omega

/-- strconv.ParseUint at digits. -/
theorem parse_ok {M : Nat} (hM : M ≤ 18446744073709551615) : ∀ (g : List UInt8) (a : Nat), (∀ c ∈ g, isDg c = true) → nvA a g ≤ M → Lib.parseUintM M a g = .ok (nvA a g)
  | [], a, _, _ => by rw [nvA_nil]; rfl
  | c :: r, a, hd, h => by
    have hc := hd c (by simp)
    simp only [isDg, Bool.and_eq_true, decide_eq_true_eq] at hc
    rw [nvA_cons] at h ⊢
    have hge := nvA_ge (a * 10 + (c.toNat - 48)) r
    rw [Lib.parseUintM, if_pos hc, if_neg (by omega), if_neg (by omega)]
    exact parse_ok hM r _ (fun x hx => hd x (by simp [hx])) h
theorem parse_range {M : Nat} : ∀ (g : List UInt8) (a : Nat), (∀ c ∈ g, isDg c = true) → a ≤ M → M < nvA a g → Lib.parseUintM M a g = .range
  | [], a, _, h1, h2 => by rw [nvA_nil] at h2; omega
  | c :: r, a, hd, h1, h2 => by
    have hc := hd c (by simp)
    simp only [isDg, Bool.and_eq_true, decide_eq_true_eq] at hc
    rw [nvA_cons] at h2
    rw [Lib.parseUintM, if_pos hc]
    by_cases e1 : 1844674407370955162 ≤ a
    · rw [if_pos e1]
    · rw [if_neg e1]
      by_cases e2 : M < a * 10 + (c.toNat - 48)
      · rw [if_pos e2]
      · rw [if_neg e2]
        exact parse_range r _ (fun x hx => hd x (by simp [hx])) (by omega) h2

theorem parse64 {g : List UInt8} (h0 : g ≠ []) (hd : ∀ c ∈ g, isDg c = true) : Lib.parseUintB 64 g = if nv g < 18446744073709551616 then .ok (nv g) else .range := by
  unfold Lib.parseUintB
  rw [if_neg h0]
  by_cases h : nv g < 18446744073709551616
  · rw [if_pos h]
    exact parse_ok (by decide) g 0 hd (by unfold nv at h; simp only [Nat.reducePow, Nat.reduceSub]; omega)
  · rw [if_neg h]
    exact parse_range g 0 hd (by omega) (by unfold nv at h; simp only [Nat.reducePow, Nat.reduceSub]; omega)
theorem parse32 {g : List UInt8} (h0 : g ≠ []) (hd : ∀ c ∈ g, isDg c = true) (h : nv g < 1000000000) : Lib.parseUintB 32 g = .ok (nv g) := by
  unfold Lib.parseUintB
  rw [if_neg h0]
  exact parse_ok (by decide) g 0 hd (by unfold nv at h; simp only [Nat.reducePow, Nat.reduceSub]; omega)

/-- a natural's digits, unless they are too many; the error. -/
def fitS (n : Nat) : List UInt8 := if Lib.nDigits n ≤ 400 then Lib.decDigits n else []
def fitE (n : Nat) : Int := if Lib.nDigits n ≤ 400 then 0 else 11
def powS (b : Nat) (x : Int) : List UInt8 := if 0 ≤ x ∧ x ≤ 400 then fitS (b ^ x.toNat) else []
def powE (b : Nat) (x : Int) : Int := if 0 ≤ x ∧ x ≤ 400 then fitE (b ^ x.toNat) else 10
end Go.Proofs.YtpjlepkdiaohiaaGreatDoor

/- Plain arithmetic, with no program in sight: naturals as groups of nine digits (limbs), the least one first. -/
namespace Go.Proofs.YtpjlepkdiaohiaaGreatDoor
open Go

/-- a natural's limbs. -/
def lim (n : Nat) : List Nat := if h : n = 0 then [] else n % 1000000000 :: lim (n / 1000000000)
  termination_by n
  decreasing_by omega

theorem lim_zero : lim 0 = [] := by rw [lim]; simp
theorem lim_pos {n : Nat} (h : n ≠ 0) : lim n = n % 1000000000 :: lim (n / 1000000000) := by rw [lim, dif_neg h]

/-- the number of limbs. -/
def val : List Nat → Nat
  | [] => 0
  | x :: r => x + 1000000000 * val r

/-- all below the base. -/
def Grp (l : List Nat) : Prop := ∀ j : Nat, l[j]?.getD 0 < 1000000000

theorem Grp.tail {x : Nat} {r : List Nat} (h : Grp (x :: r)) : Grp r := fun j => by have := h (j + 1); simpa using this
theorem Grp.head {x : Nat} {r : List Nat} (h : Grp (x :: r)) : x < 1000000000 := by have := h 0; simpa using this
theorem Grp.nil : Grp [] := fun j => by simp
theorem Grp.cons {x : Nat} {r : List Nat} (h : x < 1000000000) (hr : Grp r) : Grp (x :: r) := fun j => by
  cases j with
  | zero => simpa using h
  | succ j => simpa using hr j
theorem Grp.append {a b : List Nat} (ha : Grp a) (hb : Grp b) : Grp (a ++ b) := fun j => by
  by_cases h : j < a.length
  · rw [List.getElem?_append_left h]; exact ha j
  · rw [List.getElem?_append_right (by omega)]; exact hb _
theorem Grp.take {a : List Nat} (h : Grp a) (k : Nat) : Grp (a.take k) := fun j => by
  rw [List.getElem?_take]; split
  · exact h j
  · simp
theorem Grp.drop {a : List Nat} (h : Grp a) (k : Nat) : Grp (a.drop k) := fun j => by
  rw [List.getElem?_drop]; exact h _
theorem Grp.set {a : List Nat} (h : Grp a) (k x : Nat) (hx : x < 1000000000) : Grp (a.set k x) := fun j => by
  rw [List.getElem?_set]
  split
  · split
    · simpa using hx
    · simp
  · exact h j
theorem Grp.replicate (n : Nat) : Grp (List.replicate n 0) := fun j => by
  rw [List.getElem?_replicate]; split <;> simp

theorem lim_grp (n : Nat) : Grp (lim n) := by
  induction n using Nat.strongRecOn with
  | _ n ih =>
    by_cases h : n = 0
    · subst h; rw [lim_zero]; exact Grp.nil
    · rw [lim_pos h]; exact Grp.cons (by omega) (ih _ (by omega))

theorem val_lim (n : Nat) : val (lim n) = n := by
  induction n using Nat.strongRecOn with
  | _ n ih =>
    by_cases h : n = 0
    · subst h; rw [lim_zero]; rfl
    · rw [lim_pos h, val, ih _ (by omega)]; omega

theorem lim_eq_nil {n : Nat} : lim n = [] ↔ n = 0 := by
  constructor
  · intro h
    by_cases e : n = 0
    · exact e
    · rw [lim_pos e] at h; simp at h
  · rintro rfl; exact lim_zero

theorem val_append (a b : List Nat) : val (a ++ b) = val a + 1000000000 ^ a.length * val b := by
  induction a with
  | nil => simp [val]
  | cons x r ih =>
    simp only [List.cons_append, val, List.length_cons, ih, Nat.pow_succ]
    rw [Nat.mul_add, Nat.add_assoc, ← Nat.mul_assoc, Nat.mul_comm 1000000000 (1000000000 ^ r.length)]

theorem val_snoc (a : List Nat) (x : Nat) : val (a ++ [x]) = val a + 1000000000 ^ a.length * x := by
  rw [val_append]; simp [val]

theorem val_lt {l : List Nat} (h : Grp l) : val l < 1000000000 ^ l.length := by
  induction l with
  | nil => simp [val]
  | cons x r ih =>
    have h1 := ih h.tail
    have h2 := h.head
    simp only [val, List.length_cons, Nat.pow_succ]
    omega

theorem val_replicate (n : Nat) : val (List.replicate n 0) = 0 := by
  induction n with
  | zero => rfl
  | succ n ih => rw [List.replicate_succ, val, ih]

/-- limbs of which the last one is not 0 are their number's. -/
theorem lim_val {l : List Nat} (h : Grp l) (hl : ∀ k, l.length = k + 1 → l[k]?.getD 0 ≠ 0) : lim (val l) = l := by
  induction l with
  | nil => exact lim_zero
  | cons x r ih =>
    have hx := h.head
    have hr : lim (val r) = r := ih h.tail fun k hk => by have := hl (k + 1) (by simp [hk]); simpa using this
    have hne : x + 1000000000 * val r ≠ 0 := by
      cases r with
      | nil => have := hl 0 rfl; simp at this; omega
      | cons y s =>
        intro e
        have : val (y :: s) = 0 := by omega
        rw [this, lim_zero] at hr
        cases hr
    rw [val, lim_pos hne, show (x + 1000000000 * val r) % 1000000000 = x from by omega, show (x + 1000000000 * val r) / 1000000000 = val r from by omega, hr]

theorem lim_last {n k : Nat} (h : (lim n).length = k + 1) : (lim n)[k]?.getD 0 ≠ 0 := by
  induction n using Nat.strongRecOn generalizing k with
  | _ n ih =>
    by_cases e : n = 0
    · subst e; rw [lim_zero] at h; simp at h
    · rw [lim_pos e] at h ⊢
      cases k with
      | zero =>
        have : lim (n / 1000000000) = [] := by simpa using h
        have := lim_eq_nil.1 this
        simp; omega
      | succ k =>
        have := ih (n / 1000000000) (by omega) (k := k) (by simpa using h)
        simpa using this

/-- .. or whose number is as great as its limbs are many. -/
theorem lim_val' {l : List Nat} (h : Grp l) (hl : l = [] ∨ 1000000000 ^ (l.length - 1) ≤ val l) : lim (val l) = l := by
  refine lim_val h fun k hk e => ?_
  rcases hl with rfl | hl
  · simp at hk
  · rw [hk, Nat.add_sub_cancel] at hl
    have e1 : l = l.take k ++ [l[k]?.getD 0] := by
      rw [List.getElem?_eq_getElem (by omega), Option.getD_some, ← List.take_succ_eq_append_getElem, List.take_of_length_le (by omega)]
    have h1 : val l = val (l.take k) := by
      have := congrArg val e1
      rw [val_snoc, e] at this
      simpa using this
    have := val_lt (h.take k)
    rw [List.length_take, Nat.min_eq_left (by omega)] at this
    omega

theorem lim_len {n k : Nat} : (lim n).length ≤ k ↔ n < 1000000000 ^ k := by
  induction n using Nat.strongRecOn generalizing k with
  | _ n ih =>
    by_cases e : n = 0
    · subst e; rw [lim_zero]; simp [Nat.pow_pos]
    · rw [lim_pos e, List.length_cons]
      cases k with
      | zero => simp; omega
      | succ k =>
        have := ih (n / 1000000000) (by omega) (k := k)
        rw [Nat.pow_succ]
        rw [Nat.div_lt_iff_lt_mul (by omega)] at this
        omega

/-- how many of the first n limbs are left without zeros at their end. -/
def trimN (l : List Nat) : Nat → Nat
  | 0 => 0
  | n + 1 => if l[n]?.getD 0 = 0 then trimN l n else n + 1

theorem trimN_le (l : List Nat) : ∀ n, trimN l n ≤ n
  | 0 => Nat.le_refl _
  | n + 1 => by
    unfold trimN
    split
    · have := trimN_le l n; omega
    · omega

theorem take_succ_getD (l : List Nat) (n : Nat) (h : n < l.length) : l.take (n + 1) = l.take n ++ [l[n]?.getD 0] := by
  rw [List.getElem?_eq_getElem h, Option.getD_some, ← List.take_succ_eq_append_getElem]

theorem trimN_take {l : List Nat} (h : Grp l) : ∀ n, n ≤ l.length → l.take (trimN l n) = lim (val (l.take n))
  | 0, _ => by simp [trimN, val, lim_zero]
  | n + 1, hn => by
    unfold trimN
    split
    · rename_i e
      rw [trimN_take h n (by omega), take_succ_getD l n (by omega), e, val_snoc]; simp
    · rename_i e
      refine (lim_val (h.take _) fun k hk => ?_).symm
      rw [List.length_take] at hk
      have : k = n := by omega
      subst this
      rw [List.getElem?_take_of_lt (by omega)]; exact e

/-- .. of all of them. -/
theorem trimN_all {l : List Nat} (h : Grp l) : l.take (trimN l l.length) = lim (val l) := by
  rw [trimN_take h l.length (Nat.le_refl _), List.take_length]

/-! ### a limb's digits behind those of a number -/

/-- k digits. -/
def pad : Nat → Nat → List UInt8
  | 0, _ => []
  | k + 1, x => pad k (x / 10) ++ [UInt8.ofNat (48 + x % 10)]

theorem pad_eq : ∀ k x : Nat, x < 10 ^ k → 1 ≤ k → pad k x = List.replicate (k - (Lib.decDigits x).length) 48 ++ Lib.decDigits x
  | 0, _, _, h => by omega
  | 1, x, hx, _ => by
    rw [dec_small (by omega)]
    have : x % 10 = x := by omega
    simp [pad, this]
  | k + 2, x, hx, _ => by
    have ih := pad_eq (k + 1) (x / 10) (by rw [Nat.pow_succ] at hx; omega) (by omega)
    rw [pad, ih]
    by_cases h : x < 10
    · rw [show x / 10 = 0 from by omega, dec_small (show 0 < 10 by omega), dec_small h, show x % 10 = x from by omega]
      simp only [List.length_cons, List.length_nil]
      rw [show k + 2 - (0 + 1) = (k + 1 - (0 + 1)) + 1 from by omega, List.replicate_succ']
      rfl
    · rw [dec_big h]
      simp only [List.length_append, List.length_cons, List.length_nil]
      rw [show k + 2 - ((Lib.decDigits (x / 10)).length + (0 + 1)) = k + 1 - (Lib.decDigits (x / 10)).length from by omega, List.append_assoc]

theorem dec_pad : ∀ k n x : Nat, n ≠ 0 → x < 10 ^ k → Lib.decDigits (x + 10 ^ k * n) = Lib.decDigits n ++ pad k x
  | 0, n, x, _, hx => by
    have : x = 0 := by simpa using hx
    subst this; simp [pad]
  | k + 1, n, x, hn, hx => by
    have hp : 10 ^ (k + 1) = 10 * 10 ^ k := by rw [Nat.pow_succ, Nat.mul_comm]
    rw [hp] at hx ⊢
    have ih := dec_pad k n (x / 10) hn (by omega)
    have e : 10 * 10 ^ k * n = 10 * (10 ^ k * n) := by rw [Nat.mul_assoc]
    rw [e]
    have hpos : 0 < 10 ^ k * n := Nat.mul_pos (Nat.pow_pos (by omega)) (by omega)
    rw [dec_big (by omega), show (x + 10 * (10 ^ k * n)) / 10 = x / 10 + 10 ^ k * n from by omega, ih, show (x + 10 * (10 ^ k * n)) % 10 = x % 10 from by omega, pad, List.append_assoc]

theorem dec_limb {n x : Nat} (hn : n ≠ 0) (hx : x < 1000000000) : Lib.decDigits (x + 1000000000 * n) = Lib.decDigits n ++ (List.replicate (9 - (Lib.decDigits x).length) 48 ++ Lib.decDigits x) := by
  rw [← pad_eq 9 x hx (by omega)]
  exact dec_pad 9 n x hn hx

theorem nDigits_le_of_lt : ∀ {k u : Nat}, u < 10 ^ k → Lib.nDigits u ≤ k + 1
  | 0, u, h => by
    have : u = 0 := by simpa using h
    subst this
    rw [Lib.nDigits_small (by omega)]; omega
  | k + 1, u, h => by
    by_cases h10 : u < 10
    · rw [Lib.nDigits_small h10]; omega
    · rw [Lib.nDigits_big h10]
      have := nDigits_le_of_lt (k := k) (u := u / 10) (by rw [Nat.pow_succ] at h; omega)
      omega

theorem nDigits_unique_le {u : Nat} (h : u < 1000000000) : Lib.nDigits u ≤ 9 := by
  have key : ∀ k u : Nat, u < 10 ^ (k + 1) → Lib.nDigits u ≤ k + 1 := by
    intro k
    induction k with
    | zero => intro u h; rw [Lib.nDigits_small (by simpa using h)]; omega
    | succ k ih =>
      intro u h
      by_cases h10 : u < 10
      · rw [Lib.nDigits_small h10]; omega
      · rw [Lib.nDigits_big h10]
        have := ih (u / 10) (by rw [Nat.pow_succ] at h; omega)
        omega
  exact key 8 u h

/-! ### groups of nine digits -/

/-- a text's groups of nine bytes, from its end on. -/
def chunks (s : List UInt8) : List (List UInt8) := if h : s = [] then [] else s.drop (s.length - 9) :: chunks (s.take (s.length - 9))
  termination_by s.length
  decreasing_by have := List.length_pos_iff.2 h; simp; omega

theorem chunks_nil : chunks [] = [] := by rw [chunks]; simp
theorem chunks_cons {s : List UInt8} (h : s ≠ []) : chunks s = s.drop (s.length - 9) :: chunks (s.take (s.length - 9)) := by rw [chunks, dif_neg h]

theorem nv_lt {s : List UInt8} (h : ∀ c ∈ s, isDg c = true) : nv s < 10 ^ s.length := by
  induction s with
  | nil => simp [nv, nvA_nil]
  | cons c r ih =>
    have h1 := ih fun x hx => h x (by simp [hx])
    have h2 := h c (by simp)
    simp only [isDg, Bool.and_eq_true, decide_eq_true_eq] at h2
    have : nv (c :: r) = (c.toNat - 48) * 10 ^ r.length + nv r := by
      have := nv_append [c] r
      simpa [nv, nvA_cons, nvA_nil] using this
    rw [this, List.length_cons, Nat.pow_succ]
    have h3 : (c.toNat - 48) * 10 ^ r.length ≤ 9 * 10 ^ r.length := Nat.mul_le_mul_right _ (by omega)
    omega

theorem chunk_length {s g : List UInt8} (h : g ∈ chunks s) : 1 ≤ g.length ∧ g.length ≤ 9 := by
  have key : ∀ n, ∀ s : List UInt8, s.length = n → g ∈ chunks s → 1 ≤ g.length ∧ g.length ≤ 9 := by
    intro n
    induction n using Nat.strongRecOn with
    | _ n ih =>
      intro s hs hg
      by_cases e : s = []
      · subst e; rw [chunks_nil] at hg; cases hg
      · rw [chunks_cons e] at hg
        have := List.length_pos_iff.2 e
        rcases List.mem_cons.1 hg with rfl | hg
        · simp; omega
        · exact ih (s.length - 9) (by omega) _ (by simp) hg
  exact key _ s rfl h

theorem chunk_mem {s g : List UInt8} (h : g ∈ chunks s) : ∀ c ∈ g, c ∈ s := by
  have key : ∀ n, ∀ s : List UInt8, s.length = n → g ∈ chunks s → ∀ c ∈ g, c ∈ s := by
    intro n
    induction n using Nat.strongRecOn with
    | _ n ih =>
      intro s hs hg c hc
      by_cases e : s = []
      · subst e; rw [chunks_nil] at hg; cases hg
      · rw [chunks_cons e] at hg
        have := List.length_pos_iff.2 e
        rcases List.mem_cons.1 hg with rfl | hg
        · exact List.mem_of_mem_drop hc
        · exact List.mem_of_mem_take (ih (s.length - 9) (by omega) _ (by simp) hg c hc)
  exact key _ s rfl h

theorem val_chunks (s : List UInt8) : val ((chunks s).map nv) = nv s := by
  have key : ∀ n, ∀ s : List UInt8, s.length = n → val ((chunks s).map nv) = nv s := by
    intro n
    induction n using Nat.strongRecOn with
    | _ n ih =>
      intro s hs
      by_cases e : s = []
      · subst e; rw [chunks_nil]; simp [val, nv, nvA_nil]
      · have := List.length_pos_iff.2 e
        rw [chunks_cons e, List.map_cons, val, ih (s.length - 9) (by omega) _ (by simp)]
        have h := nv_append (s.take (s.length - 9)) (s.drop (s.length - 9))
        rw [List.take_append_drop] at h
        rw [h, List.length_drop]
        by_cases h9 : 9 ≤ s.length
        · rw [show s.length - (s.length - 9) = 9 from by omega]; omega
        · rw [show s.length - 9 = 0 from by omega]; simp [nv, nvA_nil]
  exact key _ s rfl

theorem grp_chunks {s : List UInt8} (h : ∀ c ∈ s, isDg c = true) : Grp ((chunks s).map nv) := fun j => by
  rw [List.getElem?_map]
  cases e : (chunks s)[j]? with
  | none => simp
  | some g =>
    have hg := List.mem_of_getElem? e
    have h1 := nv_lt fun c hc => h c (chunk_mem hg c hc)
    have h2 := chunk_length hg
    have h3 : 10 ^ g.length ≤ 10 ^ 9 := Nat.pow_le_pow_right (by omega) h2.2
    simp only [Option.map_some, Option.getD_some]
    omega

theorem chunks_len (s : List UInt8) : (chunks s).length ≤ s.length := by
  have key : ∀ n, ∀ s : List UInt8, s.length = n → (chunks s).length ≤ s.length := by
    intro n
    induction n using Nat.strongRecOn with
    | _ n ih =>
      intro s hs
      by_cases e : s = []
      · subst e; rw [chunks_nil]; simp
      · have := List.length_pos_iff.2 e
        have h := ih (s.length - 9) (by omega) (s.take (s.length - 9)) (by simp)
        rw [List.length_take] at h
        rw [chunks_cons e, List.length_cons]; omega
  exact key _ s rfl
end Go.Proofs.YtpjlepkdiaohiaaGreatDoor

/- What all walks share: facts kept from the walk; slices of limbs as they read; worlds. -/
namespace Go.Proofs.YtpjlepkdiaohiaaGreatDoor
open Go.RowKit

theorem hid {p : Prop} (h : p) : Hid p := h

theorem ret_bool {a b : Bool} (h : a = b) : Ending.returned (.bool a) = .returned (.bool b) := by rw [h]
theorem ret_int {k : IntKind} {a b : Int} (h : a = b) : Ending.returned (.int k a) = .returned (.int k b) := by rw [h]
theorem ret_str {a b : ByteArray} (h : a = b) : Ending.returned (.string a) = .returned (.string b) := by rw [h]
theorem ret_val {a b : Value} (h : a = b) : Ending.returned a = .returned b := by rw [h]

/-! ### division by a number that is not known: the quotient and the rest, in each form that the walk may show -/
theorem quo_forms {m b q : Nat} (hb : 0 < b) (hm : m < 18446744073709551616) (hq : m / b = q) : IntKind.u64.wrap ((m : Int).tdiv (b : Int)) = (q : Int) ∧ IntKind.u64.wrap ((m : Int) / (b : Int)) = (q : Int) ∧ ¬ b = 0 := by
  have h := IntWalk.u64_quo (m : Int) (b : Int) ⟨by omega, by omega, by omega⟩
  rw [show (m : Int) / (b : Int) = ((m / b : Nat) : Int) from rfl, hq] at h
  refine ⟨h, ?_, by omega⟩
  rw [Int.tdiv_eq_ediv_of_nonneg (by omega)] at h
  exact h
theorem rem_forms {m b r : Nat} (hr : m % b = r) : (m : Int).tmod (b : Int) = (r : Int) ∧ (m : Int) % (b : Int) = (r : Int) := by
  rw [Int.tmod_eq_emod_of_nonneg (by omega), ← hr]
  exact ⟨rfl, rfl⟩

/-- the digits, as a text. -/
def digs : ByteArray := ⟨#[48, 49, 50, 51, 52, 53, 54, 55, 56, 57]⟩

theorem str_eq (s : ByteArray) : (⟨s.data.toList.toArray⟩ : ByteArray) = s := by cases s; simp
theorem extract_take (s : ByteArray) (k : Nat) : (s.extract 0 k).data.toList = s.data.toList.take k := by
  rw [Lib.extract_data, List.drop_zero, Nat.sub_zero]
/-- a text's own letters; a text of letters. -/
def tx (s : ByteArray) : List UInt8 := s.data.toList
def B (l : List UInt8) : ByteArray := ⟨l.toArray⟩
theorem tx_B (l : List UInt8) : tx (B l) = l := by simp [tx, B]
theorem size_B (l : List UInt8) : (B l).size = l.length := by simp [B, ByteArray.size]
theorem B_tx (s : ByteArray) : B (tx s) = s := str_eq s
theorem len_str (s : ByteArray) : s.data.toList.length = s.size := by cases s; rfl

/-- THE TABLES THAT THE LIBRARY READS, AS THEY ARE LAID. -/
structure Tabs (w : World) : Prop where
  pow10 : Lib.TabIs Tryz.prog w "internal/strconv.uint64pow10" .u64 Lib.pow10Tab
  range : ∃ tp p, w.var? Tryz.prog "strconv.ErrRange" = some #[.iface tp p]
  synt : ∃ tp p, w.var? Tryz.prog "strconv.ErrSyntax" = some #[.iface tp p]

theorem pow10_glob : Tryz.prog.globalNamed "internal/strconv.uint64pow10" = some 10 := by kernel_rfl
theorem range_glob : Tryz.prog.globalNamed "strconv.ErrRange" = some 8 := by kernel_rfl

theorem synt_glob : Tryz.prog.globalNamed "strconv.ErrSyntax" = some 7 := by kernel_rfl

theorem lt_of_var {w : World} {name : String} {g : Nat} {r : Array Value} (hg : Tryz.prog.globalNamed name = some g) (h : w.var? Tryz.prog name = some r) : g < w.heap.size := by
  unfold World.var? at h
  simp only [hg, Option.bind_some] at h
  cases e : w.heap[g]? with
  | none => rw [e] at h; cases h
  | some o => exact (Array.getElem?_eq_some_iff.1 e).1

theorem var_kept {w w' : World} {name : String} {g : Nat} {r : Array Value} (hg : Tryz.prog.globalNamed name = some g) (h : w.var? Tryz.prog name = some r) (hb : Below w.heap.size w w') : w'.var? Tryz.prog name = some r :=
  var?_below hb hg (lt_of_var hg h) h

theorem Tabs.below {w w' : World} (h : Tabs w) (hb : Below w.heap.size w w') : Tabs w' :=
  ⟨var_kept pow10_glob h.pow10 hb, let ⟨tp, p, e⟩ := h.range; ⟨tp, p, var_kept range_glob e hb⟩, let ⟨tp, p, e⟩ := h.synt; ⟨tp, p, var_kept synt_glob e hb⟩⟩

theorem belowN {B : Nat} {a w : World} (h : Below B a w) (n : Nat) : Below B a (w.drewN n) := ⟨h.os, h.tape, h.output, h.size, h.block⟩
theorem below_alloc (w : World) (o : Obj) : Below w.heap.size w (w.alloc o) := (Below.refl _ _).alloc (Nat.le_refl _) o
theorem Tabs.alloc {w : World} (h : Tabs w) (o : Obj) : Tabs (w.alloc o) := h.below (below_alloc w o)
theorem Tabs.drew {w : World} (h : Tabs w) : Tabs w.drew := h.below (Below.refl _ _).drew

theorem ownBlock_slice (a : Option Addr) (n c : Nat) : (Value.slice a n c).ownBlock = a.map (·.block) := by cases a <;> rfl

/-! ### a slice of limbs, as it reads -/

/-- the slice value v reads as the limbs xs, each in a cell of kind u32. -/
def Lim (w : World) (v : Value) (xs : List Nat) : Prop :=
  ∃ a cap, v = .slice a xs.length cap ∧ xs.length ≤ cap ∧ (cap ≤ maxLen ∧ ∀ k, v.ownBlock = some k → ∃ c fz, w.heap[k]? = some (.cells c 214 fz)) ∧
    (xs ≠ [] → ∃ b off, a = some ⟨b, off, none⟩ ∧ b < w.heap.size ∧ ∀ j, j < xs.length → w.cell? ⟨b, off + j, none⟩ = some (.int .u32 (xs[j]?.getD 0 : Nat)))

theorem Lim.below {w w' : World} {v : Value} {xs : List Nat} (h : Lim w v xs) (hb : Below w.heap.size w w') : Lim w' v xs := by
  obtain ⟨a, cap, h1, h2, h3, h4⟩ := h
  refine ⟨a, cap, h1, h2, ⟨h3.1, fun k hk => let ⟨c, fz, e⟩ := h3.2 k hk; ⟨c, fz, (hb.block k (Array.getElem?_eq_some_iff.1 e).1).trans e⟩⟩, fun hne => ?_⟩
  obtain ⟨b, off, e1, e2, e3⟩ := h4 hne
  exact ⟨b, off, e1, Nat.lt_of_lt_of_le e2 hb.size, fun j hj => (hb.cell (p := ⟨b, off + j, none⟩) e2).trans (e3 j hj)⟩

theorem Lim.own {w : World} {v : Value} {xs : List Nat} (h : Lim w v xs) : ∀ k, v.ownBlock = some k → k < w.heap.size := let ⟨_, _, _, _, h3, _⟩ := h; fun k hk => let ⟨_, _, e⟩ := h3.2 k hk; (Array.getElem?_eq_some_iff.1 e).1
theorem Lim.typed {w : World} {v : Value} {xs : List Nat} (h : Lim w v xs) : ∀ k, v.ownBlock = some k → ∃ c fz, w.heap[k]? = some (.cells c 214 fz) := let ⟨_, _, _, _, h3, _⟩ := h; h3.2

theorem Lim.nil (w : World) : Lim w (.slice none 0 0) [] := ⟨none, 0, rfl, Nat.le_refl _, ⟨by simp [maxLen], fun k hk => by simp [Value.ownBlock] at hk⟩, fun h => absurd rfl h⟩

/-- a row that the call itself has made reads so. -/
theorem Lim.of_owns {w : World} {base : Nat} {v : Value} {xs : List Nat} (h : w.ownsRow base 214 1 v xs.length (xs.map fun x => Value.int .u32 (x : Nat))) : Lim w v xs := by
  rcases h.2 with ⟨rfl, h0⟩ | ⟨g, cap, cur, rfl, _, hg, hle, hcap, hsz, htake⟩
  · obtain rfl : xs = [] := List.eq_nil_of_length_eq_zero h0
    exact Lim.nil w
  · refine ⟨_, cap, rfl, hle, ⟨hcap, fun k hk => by simp [Value.ownBlock] at hk; rw [← hk]; exact ⟨_, _, hg⟩⟩, fun _ => ⟨g, 0, rfl, (Array.getElem?_eq_some_iff.1 hg).1, fun j hj => ?_⟩⟩
    have := h.cells (g := g) rfl j (.int .u32 (xs[j]?.getD 0 : Nat)) (by simp [hj])
    rwa [Lib.add_plain] at this
end Go.Proofs.YtpjlepkdiaohiaaGreatDoor

/- A range over a function whose iterator may turn what is its own (a variable that it has captured), by a law of this claim's own: over any program. -/
namespace Go.Proofs.YtpjlepkdiaohiaaGreatDoor
open Go Go.RowKit

variable {P : Program}

/-- in the wide fence a round's depth is idle. -/
theorem roundIn_any {n m l : Nat} {f : FuncId} {tmps : Array Value} {assign body : Code} {w : World} {R : Ending → World → Prop} (h : RoundIn Fence.wide n P l f tmps assign body w R) : RoundIn Fence.wide m P l f tmps assign body w R :=
  ⟨h.1, fun c cs _ => h.2 c cs (room_wide _)⟩
theorem yieldAt_any {n m l : Nat} {args : Array Value} {W : World} {R : Ending → World → Prop} (h : YieldAt Fence.wide n P l args W R) : YieldAt Fence.wide m P l args W R := by
  obtain ⟨fn, tmps, assign, body, h1, h2⟩ := h
  exact ⟨fn, tmps, assign, body, h1, roundIn_any h2⟩

/-- a contract at a call within a round, and outside of one. -/
theorem callR {l n : Nat} {f : FuncId} {args : Array Value} {w : World} {R R' : Ending → World → Prop} (h : Calls P f args w R) (hm : ∀ e w', R e w' → R' e w') : Fence.wide.fn f ∧ CallsIn (Fence.wide.inRound l) n P f args w R' :=
  ⟨trivial, (CallsIn.inRound l (callsIn_wide.2 h)).mono hm⟩
theorem callW {n : Nat} {f : FuncId} {args : Array Value} {w : World} {R R' : Ending → World → Prop} (h : Calls P f args w R) (hm : ∀ e w', R e w' → R' e w') : Fence.wide.fn f ∧ CallsIn Fence.wide n P f args w R' :=
  ⟨trivial, (callsIn_wide.2 h).mono hm⟩

/-- THE CONTRACT OF AN ITERATOR: It: what it may turn between two rounds; Kp: what a round that goes on keeps; Ok: what is known of what comes. -/
def IterC {α : Type} (P : Program) (g : Nat) (lb : Array Value) (encs : α → Array Value) (It Kp : World → World → Prop) (Ok : List α → α → Prop) (S Sp : List α → World → Prop) (w : World) : Prop :=
  ∀ (l : Nat) (J Jx : List α → World → Prop) (W : World), Below w.heap.size w W → (∀ s A B, J s A → It A B → J s B) → (∀ s A B, Jx s A → It A B → Jx s B) →
    (∀ pre x W1, J pre W1 → Ok pre x → YieldAt Fence.wide 7 P l (encs x) W1 fun e W' =>
      (e = .returned (.bool true) ∧ J (pre ++ [x]) W' ∧ Kp W1 W') ∨ (e = .returned (.bool false) ∧ Jx (pre ++ [x]) W')) →
    J [] W →
    CallsIn Fence.wide 8 P g (#[.func (.yield l) #[] #[]] ++ lb) W fun e W' => (∃ v, e = .returned v) ∧ ((∃ xs, S xs W' ∧ J xs W') ∨ (∃ pre, Sp pre W' ∧ Jx pre W'))

/-- how a round's body may be left. -/
def overPost {α : Type} (B : Nat) (Kp : World → World → Prop) (I : List α → World → Prop) (Ix : Code → List α → World → Prop) (xs : List α) (W : World) : Exit → Act → World → Prop
  | .normal, _, W' => KeepsFrom B W W' ∧ Kp W W' ∧ I xs W'
  | .ret, _, W' => KeepsFrom B W W' ∧ Ix .ret xs W'
  | .exit id, _, W' => KeepsFrom B W W' ∧ Ix (.exit id) xs W'
  | .goto t, _, W' => KeepsFrom B W W' ∧ Ix (.goto t) xs W'
  | .panic _, _, _ => False
  | .outgrown, _, _ => False

/-- THE LAW OF THE STATEMENT. -/
theorem rangeOverG {α : Type} {g : Operand} {ps : Array Tmp} {assign body : Code} {Q : Exit → Act → World → Prop} {a : Act} {w : World}
    {gf : Nat} {lb : Array Value} (hg : a.eval g = .func (.func gf) #[] lb) (eg : ∀ args w, (callFunc gf args).run P w = .ok (.enter gf args) w)
    {encs : α → Array Value} {It Kp : World → World → Prop} {Ok : List α → α → Prop} {S Sp : List α → World → Prop} {w0 : World} (hseq : IterC P gf lb encs It Kp Ok S Sp w0)
    (hb0 : Below w0.heap.size w0 w) (hps : ∀ x, (encs x).size = ps.size)
    (hIt : ∀ (A B : World), It A B → A.heap.size ≤ B.heap.size ∧ ∀ (k : Nat) (o : Obj), w.heap.size ≤ k → A.heap[k]? = some o → o.isCells = false → o.isWalk = false → B.heap[k]? = some o)
    (hKt : ∀ {A B C : World}, Kp A B → Kp B C → Kp A C) (hKb : ∀ (W : World) (l : Nat) (o o' : Obj), w.heap.size ≤ l → W.heap[l]? = some o → o.isCells = false → o.isWalk = false → Kp W (W.putObj l o'))
    (hS : OwnFrom w.heap.size S) (hSp : OwnFrom w.heap.size Sp)
    (I : List α → World → Prop) (Ix : Code → List α → World → Prop) (hI : OwnFrom w.heap.size I) (hIx : ∀ c, OwnFrom w.heap.size (Ix c))
    (hII : ∀ s A B, I s A → It A B → I s B) (hIxI : ∀ c s A B, Ix c s A → It A B → Ix c s B) (h0 : I [] w)
    (Ax : α → Act → World → Prop) (hAx : ∀ x a', OwnFrom w.heap.size (fun (_ : Unit) W => Ax x a' W))
    (hassign : ∀ (l : Nat) (pre : List α) (x : α) (W : World) (K : Act → World → Prop), I pre W → Ok pre x → (∀ a' W', KeepsFrom w.heap.size W W' → Kp W W' → I pre W' → Ax x a' W' → K a' W') →
      assign.wpIn (Fence.wide.inRound l) 7 P (Exit.then K (fun _ _ _ => False)) { tmps := (ps.zip (encs x)).foldl (fun t (p, v) => t.setIfInBounds p v) a.tmps, defers := [] } W)
    (hbody : ∀ (l : Nat) (pre : List α) (x : α) (a' : Act) (W : World), w.heap.size ≤ l → I pre W → Ax x a' W → Ok pre x → body.wpIn (Fence.wide.inRound l) 7 P (overPost w.heap.size Kp I Ix (pre ++ [x]) W) a' W)
    (hdone : ∀ (D : Nat) (xs : List α) (W : World), w.heap.size ≤ D → S xs W → I xs W → W.heap[D]? = some (.deferred (some [])) → Q .normal { a with defers := { target := .collected D, args := #[] } :: a.defers } W)
    (hstop : ∀ (D : Nat) (c : Code) (pre : List α) (W : World), w.heap.size ≤ D → Sp pre W → Ix c pre W → W.heap[D]? = some (.deferred (some [])) → c.wpIn Fence.wide 9 P Q { a with defers := { target := .collected D, args := #[] } :: a.defers } W) :
    (Code.rangeFunc g ps assign body).wpIn Fence.wide 9 P Q a w := by
  refine wpIn_rangeFunc ?_
  intro fn hfn
  rw [show Fence.wide.round = none from rfl]
  -- the record, in each of its states
  obtain ⟨rec, hrec⟩ : ∃ rec : LoopState → Option Code → Loop, rec = fun st pe => { state := st, pending := pe, fn, tmps := a.tmps, params := ps, assign, body, defers := w.heap.size } := ⟨_, rfl⟩
  have hst : ∀ st pe st' pe', ({ rec st pe with state := st', pending := pe' } : Loop) = rec st' pe' := fun _ _ _ _ => by rw [hrec]
  have hst1 : ∀ st pe st', ({ rec st pe with state := st' } : Loop) = rec st' pe := fun _ _ _ => by rw [hrec]
  have hs0 : ∀ st pe, (rec st pe).state = st := fun _ _ => by rw [hrec]
  have hs1 : ∀ st pe, (rec st pe).pending = pe := fun _ _ => by rw [hrec]
  have hs2 : ∀ st pe, (rec st pe).params = ps := fun _ _ => by rw [hrec]
  obtain ⟨W1, hW1⟩ : ∃ W1, (w.alloc (.deferred (some []))).alloc (.loop (rec .ready none)) = W1 := ⟨_, rfl⟩
  have hsz : W1.heap.size = w.heap.size + 2 := by rw [← hW1]; simp
  -- the law's book-keeping
  have book : ∀ (W : World) (st : LoopState) (pe : Option Code), W.heap[w.heap.size + 1]? = some (.loop (rec st pe)) → w.heap.size + 1 < W.heap.size := fun W st pe h => (Array.getElem?_eq_some_iff.1 h).1
  refine ⟨w.heap.size + 1, [{ target := .collected w.heap.size, args := #[] }], W1, { target := .fn (.func gf) lb, args := #[.func (.yield (w.heap.size + 1)) #[] #[]] }, W1, gf,
    #[.func (.yield (w.heap.size + 1)) #[] #[]] ++ lb, W1, ?_, ?_, fun _ _ => trivial, ?_, fun h => by simp [Fence.wide] at h, ?_⟩
  · rw [← hW1, hrec]; exact run_enterLoop_outer _ _ _ _ _
  · simp only [resolve, hg]
    simp [go_sem]
  · simp [invoke, go_sem, eg]
  have hL1 : W1.heap[w.heap.size + 1]? = some (.loop (rec .ready none)) := by
    rw [← hW1]
    have := World.alloc_heap_new (w.alloc (.deferred (some []))) (.loop (rec .ready none))
    rwa [World.size_alloc] at this
  have hD1 : W1.heap[w.heap.size]? = some (.deferred (some [])) := by
    rw [← hW1]; exact (Below.heap_alloc _ _ _ (by simp)).trans (World.alloc_heap_new w _)
  have hI1 : I [] W1 := by rw [← hW1]; exact hI.alloc _ (hI.alloc _ h0)
  have hb1 : Below w0.heap.size w0 W1 := by
    rw [← hW1]; exact hb0.trans ((((Below.refl _ w).alloc (Nat.le_refl _) _).alloc (by simp) _).mono hb0.size)
  refine CallsIn.mono (R := fun e W' => (∃ v, e = .returned v) ∧ ((∃ xs, S xs W' ∧ (I xs W' ∧ W'.heap[w.heap.size + 1]? = some (.loop (rec .ready none)) ∧ W'.heap[w.heap.size]? = some (.deferred (some [])))) ∨
      (∃ pre, Sp pre W' ∧ ∃ c, Ix c pre W' ∧ W'.heap[w.heap.size + 1]? = some (.loop (rec .done (some c))) ∧ W'.heap[w.heap.size]? = some (.deferred (some []))))) ?_ ?_
  · refine hseq (w.heap.size + 1)
      (fun pre W => I pre W ∧ W.heap[w.heap.size + 1]? = some (.loop (rec .ready none)) ∧ W.heap[w.heap.size]? = some (.deferred (some [])))
      (fun pre W => ∃ c, Ix c pre W ∧ W.heap[w.heap.size + 1]? = some (.loop (rec .done (some c))) ∧ W.heap[w.heap.size]? = some (.deferred (some []))) W1 hb1
      (fun s A B ⟨hi, hl, hd⟩ hit => ⟨hII s A B hi hit, (hIt A B hit).2 _ _ (by omega) hl rfl rfl, (hIt A B hit).2 _ _ (Nat.le_refl _) hd rfl rfl⟩)
      (fun s A B ⟨c, hi, hl, hd⟩ hit => ⟨c, hIxI c s A B hi hit, (hIt A B hit).2 _ _ (by omega) hl rfl rfl, (hIt A B hit).2 _ _ (Nat.le_refl _) hd rfl rfl⟩) ?_ ⟨hI1, hL1, hD1⟩
    rintro pre x W ⟨hi, hl, hd⟩ hok
    have hy := run_yield (P := P) (args := encs x) hl (by rw [hs2]; exact hps x)
    rw [hrec] at hy
    refine ⟨fn, _, assign, body, hy, roundIn_of_wpIn hfn (hassign _ pre x W _ hi hok ?_)⟩
    clear hy
    intro a' Wa hkf hkp hia hax
    have hla := hkf.same _ _ (by omega) hl rfl
    have hda := hkf.same _ _ (Nat.le_refl _) hd rfl
    have hlta := book _ _ _ hla
    have hlb : (Wa.putObj (w.heap.size + 1) (.loop (rec .busy none))).heap[w.heap.size + 1]? = some (.loop (rec .busy none)) := World.putObj_heap_same hlta
    have hdb : (Wa.putObj (w.heap.size + 1) (.loop (rec .busy none))).heap[w.heap.size]? = some (.deferred (some [])) := (World.putObj_heap_other (by omega)).trans hda
    refine ⟨Wa.putObj (w.heap.size + 1) (.loop (rec .busy none)), by rw [run_beginRound hla (by rw [hs0]), hst1], ?_⟩
    refine wpIn_mono (hbody _ pre x a' _ (by omega) (hI.putObj _ hia (by omega) hla rfl) ((hAx x a').putObj (s := ()) _ hax (by omega) hla rfl) hok) ?_
    have hkb : Kp Wa (Wa.putObj (w.heap.size + 1) (.loop (rec .busy none))) := hKb _ _ _ _ (by omega) hla rfl rfl
    -- the round's end, jump or none
    have fin : ∀ (jump : Option Code) (W3 : World), KeepsFrom w.heap.size (Wa.putObj (w.heap.size + 1) (.loop (rec .busy none))) W3 →
        W3.heap[w.heap.size + 1]? = some (.loop (rec .busy none)) ∧
        (Instr.endRound (w.heap.size + 1) jump).run P W3 = .ok (.bool jump.isNone) (W3.putObj (w.heap.size + 1) (.loop (rec (if jump.isNone then .ready else .done) jump))) ∧
        (W3.putObj (w.heap.size + 1) (.loop (rec (if jump.isNone then .ready else .done) jump))).heap[w.heap.size + 1]? = some (.loop (rec (if jump.isNone then .ready else .done) jump)) ∧
        (W3.putObj (w.heap.size + 1) (.loop (rec (if jump.isNone then .ready else .done) jump))).heap[w.heap.size]? = some (.deferred (some [])) := fun jump W3 hk3 => by
      have hl3 := hk3.same _ _ (by omega) hlb rfl
      refine ⟨hl3, by rw [run_endRound jump hl3, hst], World.putObj_heap_same (book _ _ _ hl3), (World.putObj_heap_other (by omega)).trans (hk3.same _ _ (Nat.le_refl _) hdb rfl)⟩
    rintro e a3 W3 hp
    cases e with
    | normal =>
      obtain ⟨hk3, hkp3, hi3⟩ := hp
      obtain ⟨hl3, hr, hl4, hd4⟩ := fin none W3 hk3
      exact ⟨_, _, hr, .inl ⟨rfl, ⟨hI.putObj _ hi3 (by omega) hl3 rfl, hl4, hd4⟩, hKt hkp (hKt (hKt hkb hkp3) (hKb _ _ _ _ (by omega) hl3 rfl rfl))⟩⟩
    | ret =>
      obtain ⟨hk3, hi3⟩ := hp
      obtain ⟨hl3, hr, hl4, hd4⟩ := fin (some .ret) W3 hk3
      exact ⟨_, _, hr, .inr ⟨rfl, .ret, (hIx _).putObj _ hi3 (by omega) hl3 rfl, hl4, hd4⟩⟩
    | exit id =>
      obtain ⟨hk3, hi3⟩ := hp
      obtain ⟨hl3, hr, hl4, hd4⟩ := fin (some (.exit id)) W3 hk3
      exact ⟨_, _, hr, .inr ⟨rfl, .exit id, (hIx _).putObj _ hi3 (by omega) hl3 rfl, hl4, hd4⟩⟩
    | goto t =>
      obtain ⟨hk3, hi3⟩ := hp
      obtain ⟨hl3, hr, hl4, hd4⟩ := fin (some (.goto t)) W3 hk3
      exact ⟨_, _, hr, .inr ⟨rfl, .goto t, (hIx _).putObj _ hi3 (by omega) hl3 rfl, hl4, hd4⟩⟩
    | panic ch => exact hp.elim
    | outgrown => exact hp.elim
  · rintro e W2 ⟨⟨v, rfl⟩, ⟨xs, hs, hi, hl, hd⟩ | ⟨pre, hsp, c, hi, hl, hd⟩⟩
    · refine ⟨none, W2.putObj (w.heap.size + 1) (.loop (rec .exhausted none)), ?_, hdone _ xs _ (Nat.le_refl _) (hS.putObj _ hs (by omega) hl rfl) (hI.putObj _ hi (by omega) hl rfl) ((World.putObj_heap_other (by omega)).trans hd)⟩
      rw [run_endLoop hl (by rw [hs0]; simp), hs1, hst]
    · refine ⟨some c, W2.putObj (w.heap.size + 1) (.loop (rec .exhausted (some c))), ?_, hstop _ c pre _ (Nat.le_refl _) (hSp.putObj _ hsp (by omega) hl rfl) ((hIx c).putObj _ hi (by omega) hl rfl) ((World.putObj_heap_other (by omega)).trans hd)⟩
      rw [run_endLoop hl (by rw [hs0]; simp), hs1, hst]

/-- .. of an iterator that turns cells alone. -/
theorem rangeOver {α : Type} {g : Operand} {ps : Array Tmp} {assign body : Code} {Q : Exit → Act → World → Prop} {a : Act} {w : World}
    {gf : Nat} {lb : Array Value} (hg : a.eval g = .func (.func gf) #[] lb) (eg : ∀ args w, (callFunc gf args).run P w = .ok (.enter gf args) w)
    {encs : α → Array Value} {It Kp : World → World → Prop} {Ok : List α → α → Prop} {S Sp : List α → World → Prop} {w0 : World} (hseq : IterC P gf lb encs It Kp Ok S Sp w0)
    (hb0 : Below w0.heap.size w0 w) (hps : ∀ x, (encs x).size = ps.size)
    (hIt : ∀ (A B : World), It A B → A.heap.size ≤ B.heap.size ∧ ∀ (k : Nat) (o : Obj), w.heap.size ≤ k → A.heap[k]? = some o → o.isCells = false → B.heap[k]? = some o)
    (hKt : ∀ {A B C : World}, Kp A B → Kp B C → Kp A C) (hKb : ∀ (W : World) (l : Nat) (o o' : Obj), w.heap.size ≤ l → W.heap[l]? = some o → o.isCells = false → o.isWalk = false → Kp W (W.putObj l o'))
    (hS : OwnFrom w.heap.size S) (hSp : OwnFrom w.heap.size Sp)
    (I : List α → World → Prop) (Ix : Code → List α → World → Prop) (hI : OwnFrom w.heap.size I) (hIx : ∀ c, OwnFrom w.heap.size (Ix c))
    (hII : ∀ s A B, I s A → It A B → I s B) (hIxI : ∀ c s A B, Ix c s A → It A B → Ix c s B) (h0 : I [] w)
    (Ax : α → Act → World → Prop) (hAx : ∀ x a', OwnFrom w.heap.size (fun (_ : Unit) W => Ax x a' W))
    (hassign : ∀ (l : Nat) (pre : List α) (x : α) (W : World) (K : Act → World → Prop), I pre W → Ok pre x → (∀ a' W', KeepsFrom w.heap.size W W' → Kp W W' → I pre W' → Ax x a' W' → K a' W') →
      assign.wpIn (Fence.wide.inRound l) 7 P (Exit.then K (fun _ _ _ => False)) { tmps := (ps.zip (encs x)).foldl (fun t (p, v) => t.setIfInBounds p v) a.tmps, defers := [] } W)
    (hbody : ∀ (l : Nat) (pre : List α) (x : α) (a' : Act) (W : World), w.heap.size ≤ l → I pre W → Ax x a' W → Ok pre x → body.wpIn (Fence.wide.inRound l) 7 P (overPost w.heap.size Kp I Ix (pre ++ [x]) W) a' W)
    (hdone : ∀ (D : Nat) (xs : List α) (W : World), w.heap.size ≤ D → S xs W → I xs W → W.heap[D]? = some (.deferred (some [])) → Q .normal { a with defers := { target := .collected D, args := #[] } :: a.defers } W)
    (hstop : ∀ (D : Nat) (c : Code) (pre : List α) (W : World), w.heap.size ≤ D → Sp pre W → Ix c pre W → W.heap[D]? = some (.deferred (some [])) → c.wpIn Fence.wide 9 P Q { a with defers := { target := .collected D, args := #[] } :: a.defers } W) :
    (Code.rangeFunc g ps assign body).wpIn Fence.wide 9 P Q a w :=
  rangeOverG hg eg hseq hb0 hps (fun A B h => ⟨(hIt A B h).1, fun k o h1 h2 h3 _ => (hIt A B h).2 k o h1 h2 h3⟩) hKt hKb hS hSp I Ix hI hIx hII hIxI h0 Ax hAx hassign hbody hdone hstop

/-- .. in a plain walk. -/
theorem rangeOverGP {α : Type} {g : Operand} {ps : Array Tmp} {assign body : Code} {Q : Exit → Act → World → Prop} {a : Act} {w : World}
    {gf : Nat} {lb : Array Value} (hg : a.eval g = .func (.func gf) #[] lb) (eg : ∀ args w, (callFunc gf args).run P w = .ok (.enter gf args) w)
    {encs : α → Array Value} {It Kp : World → World → Prop} {Ok : List α → α → Prop} {S Sp : List α → World → Prop} {w0 : World} (hseq : IterC P gf lb encs It Kp Ok S Sp w0)
    (hb0 : Below w0.heap.size w0 w) (hps : ∀ x, (encs x).size = ps.size)
    (hIt : ∀ (A B : World), It A B → A.heap.size ≤ B.heap.size ∧ ∀ (k : Nat) (o : Obj), w.heap.size ≤ k → A.heap[k]? = some o → o.isCells = false → o.isWalk = false → B.heap[k]? = some o)
    (hKt : ∀ {A B C : World}, Kp A B → Kp B C → Kp A C) (hKb : ∀ (W : World) (l : Nat) (o o' : Obj), w.heap.size ≤ l → W.heap[l]? = some o → o.isCells = false → o.isWalk = false → Kp W (W.putObj l o'))
    (hS : OwnFrom w.heap.size S) (hSp : OwnFrom w.heap.size Sp)
    (I : List α → World → Prop) (Ix : Code → List α → World → Prop) (hI : OwnFrom w.heap.size I) (hIx : ∀ c, OwnFrom w.heap.size (Ix c))
    (hII : ∀ s A B, I s A → It A B → I s B) (hIxI : ∀ c s A B, Ix c s A → It A B → Ix c s B) (h0 : I [] w)
    (Ax : α → Act → World → Prop) (hAx : ∀ x a', OwnFrom w.heap.size (fun (_ : Unit) W => Ax x a' W))
    (hassign : ∀ (l : Nat) (pre : List α) (x : α) (W : World) (K : Act → World → Prop), I pre W → Ok pre x → (∀ a' W', KeepsFrom w.heap.size W W' → Kp W W' → I pre W' → Ax x a' W' → K a' W') →
      assign.wpIn (Fence.wide.inRound l) 7 P (Exit.then K (fun _ _ _ => False)) { tmps := (ps.zip (encs x)).foldl (fun t (p, v) => t.setIfInBounds p v) a.tmps, defers := [] } W)
    (hbody : ∀ (l : Nat) (pre : List α) (x : α) (a' : Act) (W : World), w.heap.size ≤ l → I pre W → Ax x a' W → Ok pre x → body.wpIn (Fence.wide.inRound l) 7 P (overPost w.heap.size Kp I Ix (pre ++ [x]) W) a' W)
    (hdone : ∀ (D : Nat) (xs : List α) (W : World), w.heap.size ≤ D → S xs W → I xs W → W.heap[D]? = some (.deferred (some [])) → Q .normal { a with defers := { target := .collected D, args := #[] } :: a.defers } W)
    (hstop : ∀ (D : Nat) (c : Code) (pre : List α) (W : World), w.heap.size ≤ D → Sp pre W → Ix c pre W → W.heap[D]? = some (.deferred (some [])) → c.wp P Q { a with defers := { target := .collected D, args := #[] } :: a.defers } W) :
    (Code.rangeFunc g ps assign body).wp P Q a w :=
  wpIn_wide.1 (rangeOverG hg eg hseq hb0 hps hIt hKt hKb hS hSp I Ix hI hIx hII hIxI h0 Ax hAx hassign hbody hdone (fun D c pre W h1 h2 h3 h4 => wpIn_wide.2 (hstop D c pre W h1 h2 h3 h4)))

/-- .. in a plain walk. -/
theorem rangeOverP {α : Type} {g : Operand} {ps : Array Tmp} {assign body : Code} {Q : Exit → Act → World → Prop} {a : Act} {w : World}
    {gf : Nat} {lb : Array Value} (hg : a.eval g = .func (.func gf) #[] lb) (eg : ∀ args w, (callFunc gf args).run P w = .ok (.enter gf args) w)
    {encs : α → Array Value} {It Kp : World → World → Prop} {Ok : List α → α → Prop} {S Sp : List α → World → Prop} {w0 : World} (hseq : IterC P gf lb encs It Kp Ok S Sp w0)
    (hb0 : Below w0.heap.size w0 w) (hps : ∀ x, (encs x).size = ps.size)
    (hIt : ∀ (A B : World), It A B → A.heap.size ≤ B.heap.size ∧ ∀ (k : Nat) (o : Obj), w.heap.size ≤ k → A.heap[k]? = some o → o.isCells = false → B.heap[k]? = some o)
    (hKt : ∀ {A B C : World}, Kp A B → Kp B C → Kp A C) (hKb : ∀ (W : World) (l : Nat) (o o' : Obj), w.heap.size ≤ l → W.heap[l]? = some o → o.isCells = false → o.isWalk = false → Kp W (W.putObj l o'))
    (hS : OwnFrom w.heap.size S) (hSp : OwnFrom w.heap.size Sp)
    (I : List α → World → Prop) (Ix : Code → List α → World → Prop) (hI : OwnFrom w.heap.size I) (hIx : ∀ c, OwnFrom w.heap.size (Ix c))
    (hII : ∀ s A B, I s A → It A B → I s B) (hIxI : ∀ c s A B, Ix c s A → It A B → Ix c s B) (h0 : I [] w)
    (Ax : α → Act → World → Prop) (hAx : ∀ x a', OwnFrom w.heap.size (fun (_ : Unit) W => Ax x a' W))
    (hassign : ∀ (l : Nat) (pre : List α) (x : α) (W : World) (K : Act → World → Prop), I pre W → Ok pre x → (∀ a' W', KeepsFrom w.heap.size W W' → Kp W W' → I pre W' → Ax x a' W' → K a' W') →
      assign.wpIn (Fence.wide.inRound l) 7 P (Exit.then K (fun _ _ _ => False)) { tmps := (ps.zip (encs x)).foldl (fun t (p, v) => t.setIfInBounds p v) a.tmps, defers := [] } W)
    (hbody : ∀ (l : Nat) (pre : List α) (x : α) (a' : Act) (W : World), w.heap.size ≤ l → I pre W → Ax x a' W → Ok pre x → body.wpIn (Fence.wide.inRound l) 7 P (overPost w.heap.size Kp I Ix (pre ++ [x]) W) a' W)
    (hdone : ∀ (D : Nat) (xs : List α) (W : World), w.heap.size ≤ D → S xs W → I xs W → W.heap[D]? = some (.deferred (some [])) → Q .normal { a with defers := { target := .collected D, args := #[] } :: a.defers } W)
    (hstop : ∀ (D : Nat) (c : Code) (pre : List α) (W : World), w.heap.size ≤ D → Sp pre W → Ix c pre W → W.heap[D]? = some (.deferred (some [])) → c.wp P Q { a with defers := { target := .collected D, args := #[] } :: a.defers } W) :
    (Code.rangeFunc g ps assign body).wp P Q a w :=
  wpIn_wide.1 (rangeOver hg eg hseq hb0 hps hIt hKt hKb hS hSp I Ix hI hIx hII hIxI h0 Ax hAx hassign hbody hdone (fun D c pre W h1 h2 h3 h4 => wpIn_wide.2 (hstop D c pre W h1 h2 h3 h4)))

/-- a function that holds ranges over functions, from its body in a plain walk. -/
theorem calls_marks {f : FuncId} {fn : Func} {c : Code} {args : Array Value} {w : World} {R : Ending → World → Prop} (hf : P.funcs[f]? = some fn) (hb : fn.body = some c)
    (h : c.wp P (bodyPostM Fence.wide 9 P fn R) { tmps := args ++ Array.replicate (fn.ntmps - args.size) undef, defers := [] } w) : Calls P f args w R :=
  (callsIn_wide (n := 9)).1 (callsIn_of_wp_marks hf hb trivial (wpIn_wide.2 h) rfl)

/-- the blocks of K lie as they lay. -/
def KeptAt (K : Nat → Prop) (A B : World) : Prop := ∀ k, K k → B.heap[k]? = A.heap[k]?
theorem KeptAt.refl (K : Nat → Prop) (A : World) : KeptAt K A A := fun _ _ => rfl
theorem KeptAt.trans {K : Nat → Prop} {A B C : World} (h : KeptAt K A B) (k : KeptAt K B C) : KeptAt K A C := fun i hi => (k i hi).trans (h i hi)
theorem KeptAt.below {K : Nat → Prop} {n : Nat} {A B : World} (h : Below n A B) (hK : ∀ k, K k → k < n) : KeptAt K A B := fun k hk => h.block k (hK k hk)
theorem KeptAt.setCell {K : Nat → Prop} (A : World) (p : Addr) (v : Value) (h : ¬ K p.block) : KeptAt K A (A.setCell p v) := fun k hk =>
  Below.heap_setCell _ _ _ _ (fun e => h (by rw [← e]; exact hk))
theorem KeptAt.putObj {K : Nat → Prop} (A : World) (l : Nat) (o : Obj) (h : ¬ K l) : KeptAt K A (A.putObj l o) := fun k hk =>
  World.putObj_heap_other (fun e => h (by rw [← e]; exact hk))
theorem KeptAt.cell {K : Nat → Prop} {A B : World} (h : KeptAt K A B) {p : Addr} (hp : K p.block) : B.cell? p = A.cell? p := World.cell?_of_block (h p.block hp)
theorem KeptAt.grown {K : Nat → Prop} {A B : World} {row : Option Nat} (h : A.grownBy B row) (hK : ∀ k, K k → k < A.heap.size ∧ some k ≠ row) : KeptAt K A B := fun k hk => h.block k (hK k hk).1 (hK k hk).2

/-- whatever is cells lies as it lay. -/
def CellsKept (A B : World) : Prop := ∀ (k : Nat) (c : Array Value) (t : TypeId) (fz : Nat × Nat), A.heap[k]? = some (.cells c t fz) → B.heap[k]? = some (.cells c t fz)
theorem CellsKept.below {A B : World} (h : Below A.heap.size A B) : CellsKept A B := fun k _ _ _ hk => (h.block k (Array.getElem?_eq_some_iff.1 hk).1).trans hk

theorem ownFrom_of {β : Type} {B : Nat} {I : β → World → Prop} (h : ∀ s W W', I s W → CellsKept W W' → Below B W W' → I s W') (hB : ∀ s W, I s W → B ≤ W.heap.size) : OwnFrom B I := by
  intro s W W' row hs hg hr
  refine h s W W' hs (fun k c t fz hk => ?_) ⟨hg.os, hg.tape, hg.output, hg.size, fun k hk => ?_⟩
  · refine (hg.block k (Array.getElem?_eq_some_iff.1 hk).1 ?_).trans hk
    intro e
    obtain ⟨_, o, ho, hc⟩ := hr k e.symm
    rw [hk] at ho
    cases ho
    cases hc
  · have := hB s W hs
    refine hg.block k (by omega) ?_
    intro e
    have := (hr k e.symm).1
    omega

theorem CellsKept.trans {A B C : World} (h : CellsKept A B) (k : CellsKept B C) : CellsKept A C := fun i c t fz hi => k i c t fz (h i c t fz hi)
theorem CellsKept.putObj {A : World} {l : Nat} {o : Obj} (o' : Obj) (h : A.heap[l]? = some o) (ho : o.isCells = false) : CellsKept A (A.putObj l o') := fun k c t fz hk => by
  refine (World.putObj_heap_other ?_).trans hk
  intro e
  subst e
  rw [hk] at h
  cases h
  cases ho
theorem CellsKept.cell {A B : World} (h : CellsKept A B) {p : Addr} {v : Value} (hc : A.cell? p = some v) : B.cell? p = some v := by
  unfold World.cell? at hc ⊢
  cases hA : A.heap[p.block]? with
  | none => simp [hA] at hc
  | some o =>
    cases o with
    | cells c t fz => rw [h _ _ _ _ hA]; rw [hA] at hc; exact hc
    | _ => simp [hA] at hc
theorem CellsKept.boxed {A B : World} {b : Nat} {t : TypeId} {v : Value} (h : CellsKept A B) (hb : Boxed A b t v) : Boxed B b t v := h b _ _ _ hb
theorem CellsKept.builder {A B : World} {T e : TypeId} {n b : Nat} {bs : List Value} (h : CellsKept A B) (hb : Lib.IsBuilderF T e n b bs A) : Lib.IsBuilderF T e n b bs B := by
  have key : ∀ p, Lib.BuilderAtF T e n b p bs A → Lib.BuilderAtF T e n b p bs B := by
    rintro p ⟨h1, v, h2, h3, h4⟩
    refine ⟨h1, v, h _ _ _ _ h2, ⟨h3.1, ?_⟩, h4⟩
    rcases h3.2 with hn | ⟨g, cap, cur, fz, hv, hb, hg, rest⟩
    · exact .inl hn
    · exact .inr ⟨g, cap, cur, fz, hv, hb, h _ _ _ _ hg, rest⟩
  exact hb.elim (fun x => .inl (key _ x)) (fun x => .inr (key _ x))

/-- block g is a row of numbers. -/
def RowN (W : World) (g : Nat) (e : TypeId) (k : IntKind) (xs : List Nat) : Prop := W.heap[g]? = some (.cells (xs.map fun x => Value.int k (x : Nat)).toArray e (0, 0))
theorem CellsKept.row {A B : World} {g : Nat} {e : TypeId} {k : IntKind} {xs : List Nat} (h : CellsKept A B) (hr : RowN A g e k xs) : RowN B g e k xs := h _ _ _ _ hr
theorem RowN.lt {W : World} {g : Nat} {e : TypeId} {k : IntKind} {xs : List Nat} (h : RowN W g e k xs) : g < W.heap.size := (Array.getElem?_eq_some_iff.1 h).1
theorem RowN.cell {W : World} {g : Nat} {e : TypeId} {k : IntKind} {xs : List Nat} (h : RowN W g e k xs) {j : Nat} (hj : j < xs.length) : W.cell? ⟨g, j, none⟩ = some (.int k (xs[j]?.getD 0 : Nat)) := by
  have : W.heap[g]? = some (.cells (xs.map fun x => Value.int k (x : Nat)).toArray e (0, 0)) := h
  simp [World.cell?, this, hj]
theorem RowN.frozen {W : World} {g : Nat} {e : TypeId} {k : IntKind} {xs : List Nat} (h : RowN W g e k xs) (j : Nat) : W.frozen? ⟨g, j, none⟩ = false := by
  have : W.heap[g]? = some (.cells (xs.map fun x => Value.int k (x : Nat)).toArray e (0, 0)) := h
  simp [World.frozen?, this]
theorem RowN.set {W : World} {g : Nat} {e : TypeId} {k : IntKind} {xs : List Nat} (h : RowN W g e k xs) (j x : Nat) : RowN (W.setCell ⟨g, j, none⟩ (.int k (x : Nat))) g e k (xs.set j x) := by
  have h' : W.heap[g]? = some (.cells (xs.map fun x => Value.int k (x : Nat)).toArray e (0, 0)) := h
  show (W.heap.modify g _)[g]? = _
  rw [Array.getElem?_modify, if_pos rfl, h']
  simp [List.map_set]
theorem RowN.other {W : World} {g b off : Nat} {e : TypeId} {k : IntKind} {xs : List Nat} (h : RowN W g e k xs) (hne : g ≠ b) (v : Value) : RowN (W.setCell ⟨b, off, none⟩ v) g e k xs :=
  (Below.heap_setCell _ _ _ _ hne).trans h
theorem boxed_other {W : World} {g b off : Nat} {t : TypeId} {u : Value} (h : Boxed W g t u) (hne : g ≠ b) (v : Value) : Boxed (W.setCell ⟨b, off, none⟩ v) g t u :=
  (Below.heap_setCell _ _ _ _ hne).trans h

theorem row_of_owns {W : World} {base g n : Nat} {e : TypeId} {k : IntKind} {ys : List Value} {xs : List Nat} (h : W.ownsRow base e 1 (.slice (some ⟨g, 0, none⟩) n n) n ys) (hx : ys = xs.map fun x => Value.int k (x : Nat)) : RowN W g e k xs := by
  subst hx
  rcases h.2 with ⟨e1, _⟩ | ⟨g', cap, cur, e1, _, hg, _, _, hsz, htake⟩
  · cases e1
  · cases e1
    have : cur = (xs.map fun x => Value.int k (x : Nat)).toArray := by
      apply Array.ext'
      rw [List.take_of_length_le (by simp [hsz])] at htake
      simpa using htake
    rw [this] at hg
    exact hg

theorem keeps_below {A B : World} (h : Below A.heap.size A B) : KeepsOthers A B := ⟨h.size, fun k _ hk _ => (h.block k (Array.getElem?_eq_some_iff.1 hk).1).trans hk⟩

theorem builder_new (W : World) (T e : TypeId) : Lib.IsBuilderF T e W.heap.size W.heap.size [] (W.alloc (.cells #[.pointer none, .slice none 0 0] T)) :=
  .inl ⟨Nat.le_refl _, .slice none 0 0, World.alloc_heap_new W _, ⟨by simp, .inl ⟨rfl, rfl⟩⟩, by simp [Value.ownBlock]⟩

theorem builder_row {T e : TypeId} {n b : Nat} {bs : List Value} {A : World} (h : Lib.IsBuilderF T e n b bs A) : ∃ c, A.heap[b]? = some (.cells c T (0, 0)) := by
  rcases h with ⟨_, v, h2, _⟩ | ⟨_, v, h2, _⟩
  · exact ⟨_, h2⟩
  · exact ⟨_, h2⟩

theorem others_of_below {e : TypeId} {b : Option Nat} {A B : World} (h : Below A.heap.size A B) : Lib.OthersKept e b A B :=
  fun k _ hk _ _ => (h.block k (Array.getElem?_eq_some_iff.1 hk).1).trans hk

/-- WHAT WRITING INTO A BUILDER OF THE CALL's OWN (block b) TURNS: nothing below b; of what lies above, the rows of bytes alone. -/
structure Wrote (e : TypeId) (b : Nat) (A B : World) : Prop where
  below : Below b A B
  others : Lib.OthersKept e (some b) A B
theorem Wrote.refl (e : TypeId) (b : Nat) (A : World) : Wrote e b A A := ⟨Below.refl _ _, Lib.OthersKept.refl _ _ _⟩
theorem Wrote.trans {e : TypeId} {b : Nat} {A B C : World} (h : Wrote e b A B) (k : Wrote e b B C) : Wrote e b A C := ⟨h.below.trans k.below, h.others.trans k.others⟩
theorem Wrote.of_below {e : TypeId} {b : Nat} {A B : World} (h : Below A.heap.size A B) (hb : b ≤ A.heap.size) : Wrote e b A B := ⟨h.mono hb, others_of_below h⟩
theorem Wrote.boxed {e : TypeId} {b k : Nat} {A B : World} {t : TypeId} {v : Value} (h : Wrote e b A B) (hb : Boxed A k t v) (hk : k ≠ b) (ht : t ≠ e) : Boxed B k t v :=
  h.others k _ hb (by simpa using hk) (fun c fz e' => by cases e'; exact ht rfl)
theorem Wrote.keeps {e : TypeId} {b n : Nat} {A B : World} (h : Wrote e b A B) (hb : ∃ c T fz, A.heap[b]? = some (.cells c T fz)) : KeepsFrom n A B :=
  ⟨h.below.size, fun k o _ hk ho => h.others k o hk (fun e' => by
    obtain ⟨c, T, fz, hc⟩ := hb
    obtain rfl : k = b := by simpa using e'
    rw [hk] at hc; cases hc; cases ho) (fun c fz e' => by subst e'; cases ho)⟩
end Go.Proofs.YtpjlepkdiaohiaaGreatDoor

/- What lies in memory: blocks of cells. -/
namespace Go.Proofs.YtpjlepkdiaohiaaGreatDoor
open Go.RowKit

/-- a block of cells, of a struct. -/
def Cls (W : World) (g : Nat) (t : TypeId) (xs : List Value) : Prop := W.heap[g]? = some (.cells xs.toArray t (0, 0))
theorem Cls.lt {W : World} {g : Nat} {t : TypeId} {xs : List Value} (h : Cls W g t xs) : g < W.heap.size := (Array.getElem?_eq_some_iff.1 h).1
theorem Cls.cell {W : World} {g : Nat} {t : TypeId} {xs : List Value} (h : Cls W g t xs) (j : Nat) {v : Value} (hj : xs[j]? = some v) : W.cell? ⟨g, j, none⟩ = some v := by
  have : W.heap[g]? = some (.cells xs.toArray t (0, 0)) := h
  simp [World.cell?, this, hj]
theorem Cls.frozen {W : World} {g : Nat} {t : TypeId} {xs : List Value} (h : Cls W g t xs) (j : Nat) : W.frozen? ⟨g, j, none⟩ = false := by
  have : W.heap[g]? = some (.cells xs.toArray t (0, 0)) := h
  simp [World.frozen?, this]
theorem Cls.set {W : World} {g : Nat} {t : TypeId} {xs : List Value} (h : Cls W g t xs) (j : Nat) (v : Value) : Cls (W.setCell ⟨g, j, none⟩ v) g t (xs.set j v) := by
  have h' : W.heap[g]? = some (.cells xs.toArray t (0, 0)) := h
  show (W.heap.modify g _)[g]? = _
  rw [Array.getElem?_modify, if_pos rfl, h']
  simp
theorem Cls.other {W : World} {g b off : Nat} {t : TypeId} {xs : List Value} (h : Cls W g t xs) (hne : g ≠ b) (v : Value) : Cls (W.setCell ⟨b, off, none⟩ v) g t xs :=
  (Below.heap_setCell _ _ _ _ hne).trans h
theorem Cls.new (W : World) (t : TypeId) (xs : List Value) : Cls (W.alloc (.cells xs.toArray t)) W.heap.size t xs := World.alloc_heap_new W _
theorem Cls.kept {W W' : World} {row : Option Nat} {g : Nat} {t : TypeId} {xs : List Value} (h : Cls W g t xs) (hg : W.grownBy W' row) (hne : some g ≠ row) : Cls W' g t xs :=
  (hg.block g h.lt (fun e => hne e)).trans h
theorem Cls.alloc {W : World} {g : Nat} {t : TypeId} {xs : List Value} (h : Cls W g t xs) (o : Obj) : Cls (W.alloc o) g t xs := h.kept (World.grownBy_alloc W o none) (by simp)
theorem grow_set (W : World) (b off : Nat) (v : Value) : W.grownBy (W.setCell ⟨b, off, none⟩ v) (some b) :=
  ⟨rfl, rfl, rfl, (KeepsWalks.setCell W _ v).size, fun k _ hk => Below.heap_setCell _ _ _ k (fun e => hk (by rw [e]))⟩
theorem setCell_size (w : World) (a : Addr) (v : Value) : (w.setCell a v).heap.size = w.heap.size := by
  show (w.heap.modify a.block _).size = _
  exact Array.size_modify
theorem cells_cell {W : World} {g j : Nat} {t : TypeId} {fz : Nat × Nat} {cur : Array Value} {v : Value} (h : W.heap[g]? = some (.cells cur t fz)) (hj : cur.toList[j]? = some v) : W.cell? ⟨g, j, none⟩ = some v := by
  rw [Array.getElem?_toList] at hj
  simp [World.cell?, h, hj]
theorem take_get {l vs : List Value} {n j : Nat} {v : Value} (h : l.take n = vs) (hj : vs[j]? = some v) : l[j]? = some v := by
  subst h
  rw [List.getElem?_take] at hj
  split at hj
  · exact hj
  · cases hj

theorem lt_of_cell {w : World} {g o : Nat} {v : Value} (h : w.cell? ⟨g, o, none⟩ = some v) : g < w.heap.size := by
  cases e : w.heap[g]? with
  | none => simp [World.cell?, e] at h
  | some x => exact (Array.getElem?_eq_some_iff.1 e).1
theorem cell_below {w w' : World} {g o : Nat} {v : Value} (h : w.cell? ⟨g, o, none⟩ = some v) (hb : Below w.heap.size w w') : w'.cell? ⟨g, o, none⟩ = some v := (hb.cell (p := ⟨g, o, none⟩) (lt_of_cell h)).trans h
theorem Cls.below {W W' : World} {g : Nat} {t : TypeId} {xs : List Value} (h : Cls W g t xs) (hb : Below W.heap.size W W') : Cls W' g t xs := (hb.block g h.lt).trans h
end Go.Proofs.YtpjlepkdiaohiaaGreatDoor

/- strconv.FormatUint at base 10: the number's decimal digits; nat.Right: is a text a natural? -/
namespace Go.Proofs.YtpjlepkdiaohiaaGreatDoor
open Go.RowKit Go.Shelf Go.Sort Go.Lib

theorem below_row {enc : UInt8 → Value} {B blk off : Nat} {w0 w : World} {d : Array UInt8} (h : Below B w0 w) (hg : B ≤ blk) : Below B w0 (putRow enc w blk off d) :=
  h.trans ⟨rfl, rfl, rfl, by simp [putRow, mapBlock], fun k hk => by
    simp only [putRow, mapBlock, Array.getElem?_modify]
    rw [if_neg (by omega)]⟩

set_option maxHeartbeats 1600000 in
set_option maxRecDepth 100000 in
theorem iFormatUint (u : Nat) (hu64 : u < 18446744073709551616) (w : World) (hT : Tabs w) :
    Calls Tryz.prog 194 #[.int .u64 u, .int .i64 10] w fun e w' => e = .returned (.string ⟨(Lib.decDigits u).toArray⟩) ∧ Below w.heap.size w w' := by
  by_cases hs : u < 100
  · have hs' : ((u : Int)) < 100 := by omega
    go_enter Tryz.func194, Tryz.ntmps194
    go_wp2_with (go_at_call 206; refine (Tryz.internal_strconv_small u hs _).mono ?_; rintro e w' ⟨rfl, rfl⟩)
    go_ret
    exact ⟨rfl, Below.refl _ _⟩
  · have hs' : ¬ ((u : Int)) < 100 := by omega
    have hu1 : 1 ≤ u := by omega
    have hnd20 : Lib.nDigits u ≤ 20 := by have := Lib.numDigits_eq u hu1 hu64; split at this <;> omega
    have htab := hT.pow10
    have hsl : ∀ W, (Instr.sliceAt 238 (.pointer (some ⟨w.heap.size, 0, none⟩)) none (some (.int .i64 (Lib.nDigits u : Int))) none).run Tryz.prog W = .ok (.slice (some ⟨w.heap.size, 0, none⟩) (Lib.nDigits u) 24) W := fun W => by
      rw [run_sliceAt_array_h W 238 ⟨w.heap.size, 0, none⟩ (by simp [Program.arrayLen, Program.elem, Tryz.underlying238]) .i64 (Lib.nDigits u : Int) (by omega) (by rw [show Tryz.prog.arrayLen 238 = 24 by simp [Program.arrayLen, Tryz.underlying238]]; omega)]
      go_simp
    have hH0 : Holds (fun (b : UInt8) => Value.int .u8 (b.toNat : Int)) (w.alloc (.cells Lib.zeros24 238)) w.heap.size 0 (Array.replicate (Lib.nDigits u) (0 : UInt8)) := fun j hj => by
      rw [Array.size_replicate] at hj
      rw [World.cell?_alloc_new]
      simpa [hj] using Lib.zeros24_at (0 + j) (by omega)
    have hfmt := Tryz.internal_strconv_formatBase10 w.heap.size 0 24 u (Array.replicate (Lib.nDigits u) 0) (w.alloc (.cells Lib.zeros24 238)) hH0 (by rw [Array.size_replicate]; exact Lib.lt_pow_nDigits u) hu64 (by rw [Array.size_replicate]; omega)
    rw [Array.size_replicate] at hfmt
    have HH0 := hid hH0
    clear hH0
    go_enter Tryz.func194, Tryz.ntmps194
    go_wp2_with (go_at_call 207; refine (Tryz.internal_strconv_numDigits u hu1 hu64 _ (Lib.tabIs_alloc htab _)).mono ?_; rintro e w' ⟨rfl, rfl⟩)
    refine hfmt.mono ?_
    rintro e w' ⟨rfl, k, v', dk, rfl, hF⟩
    have hcv : (convert 41 9 (.slice (some ⟨w.heap.size, 0, none⟩) (Lib.nDigits u) 24)).run Tryz.prog ((putRow (fun (b : UInt8) => Value.int .u8 (b.toNat : Int)) (w.alloc (.cells Lib.zeros24 238)) w.heap.size 0 dk).drewN k) = .ok (.string ⟨(Lib.decDigits u).toArray⟩) ((putRow (fun (b : UInt8) => Value.int .u8 (b.toNat : Int)) (w.alloc (.cells Lib.zeros24 238)) w.heap.size 0 dk).drewN k) := by
      have h := run_convert_bytes_back (P := Tryz.prog) ((putRow (fun (b : UInt8) => Value.int .u8 (b.toNat : Int)) (w.alloc (.cells Lib.zeros24 238)) w.heap.size 0 dk).drewN k) 41 9 5 ⟨w.heap.size, 0, none⟩ 24 (Lib.decDigits u) Tryz.underlying41 Tryz.underlying5 Tryz.underlying9 (fun j hj => by
        rw [Lib.row_is_numeral hF j hj, Lib.add_plain, World.cell?_drewN]
        exact cell?_putRow (fun (b : UInt8) => Value.int .u8 (b.toNat : Int)) _ w.heap.size 0 _ dk HH0.out (by rw [hF.size, Array.size_replicate]) j (by rw [hF.size]; rw [Lib.decDigits_length] at hj; exact hj))
      rw [Lib.decDigits_length] at h
      exact h
    go_wp2
    go_ret
    exact ⟨rfl, belowN (below_row (below_alloc w _) (Nat.le_refl _)) k⟩

set_option maxRecDepth 100000 in
theorem formatUint (u : Nat) (hu64 : u < 18446744073709551616) (w : World) (hT : Tabs w) :
    Calls Tryz.prog 171 #[.int .u64 u, .int .i64 10] w fun e w' => e = .returned (.string ⟨(Lib.decDigits u).toArray⟩) ∧ Below w.heap.size w w' := by
  go_enter Tryz.func171, Tryz.ntmps171
  go_wp2_with (go_at_call 194; refine (iFormatUint u hu64 _ hT).mono ?_; rintro e w' ⟨rfl, hb⟩)
  go_ret
  exact ⟨rfl, hb⟩

theorem dropWhile_nil {p : UInt8 → Bool} {l : List UInt8} : l.dropWhile p = [] ↔ ∀ c ∈ l, p c = true := by
  induction l with
  | nil => simp
  | cons x r ih =>
    rw [List.dropWhile_cons]
    by_cases h : p x = true
    · simp [h, ih]
    · simp [h]

theorem dropWhile_idem {p : UInt8 → Bool} (l : List UInt8) : (l.dropWhile p).dropWhile p = l.dropWhile p := by
  induction l with
  | nil => rfl
  | cons x r ih =>
    rw [List.dropWhile_cons]
    by_cases h : p x = true
    · simp only [h, if_true, ih]
    · simp [h]

theorem trimS_nil {l ds : List UInt8} : Lib.trimS l ds = [] ↔ ∀ c ∈ l, ds.contains c = true := by
  unfold Lib.trimS Lib.trimLeftS Lib.trimRightS
  rw [dropWhile_nil]
  constructor
  · intro h
    have h' : ∀ c ∈ l.reverse.dropWhile (ds.contains ·), ds.contains c = true := fun c hc => h c (by simpa using hc)
    have e := dropWhile_nil.2 h'
    rw [dropWhile_idem] at e
    have := dropWhile_nil.1 e
    exact fun c hc => this c (by simpa using hc)
  · intro h
    have e : l.reverse.dropWhile (ds.contains ·) = [] := dropWhile_nil.2 fun c hc => h c (by simpa using hc)
    rw [e]
    simp

theorem digs_has (c : UInt8) : digs.data.toList.contains c = isDg c := by
  have key : ∀ n : Fin 256, digs.data.toList.contains (UInt8.ofNat n.val) = isDg (UInt8.ofNat n.val) := by decide +kernel
  have := key ⟨c.toNat, c.toNat_lt⟩
  simpa using this

theorem trim_all (l : List UInt8) : (Lib.trimS l digs.data.toList).isEmpty = l.all isDg := by
  rw [Bool.eq_iff_iff, List.isEmpty_iff, trimS_nil, List.all_eq_true]
  exact ⟨fun h c hc => by rw [← digs_has]; exact h c hc, fun h c hc => by rw [digs_has]; exact h c hc⟩

theorem trim_digs (s : ByteArray) (w : World) (hs : s.size ≤ 140737488355328) :
    Calls Tryz.prog 176 #[.string s, .string digs] w fun e w' => e = .returned (.string ⟨(Lib.trimS s.data.toList digs.data.toList).toArray⟩) ∧ Below w.heap.size w w' :=
  Any.strings_Trim_laid Tryz.lays160 (by kernel_rfl) s digs w (by omega) (by decide) (ascii_of_all (by decide))

theorem emp_of (s : ByteArray) (h : s.size = 0) : s.toList = [] ∧ s.data.toList = [] := by
  have : s.data.toList = [] := List.eq_nil_of_length_eq_zero (by rw [len_str]; exact h)
  exact ⟨by rw [Lib.toList_data]; exact this, this⟩
theorem ne_of (s : ByteArray) (h : ¬ s.size = 0) : ¬ s.toList = [] ∧ s.toList.isEmpty = false := by
  have : ¬ s.toList = [] := by
    rw [Lib.toList_data]
    intro e
    exact h (by rw [← len_str, e]; rfl)
  exact ⟨this, by simp [this]⟩

theorem isRt_long {l : List UInt8} (h : 400 < l.length) : isRt l = false := by
  unfold isRt
  rw [show decide (l.length ≤ 400) = false by simp; omega]
  simp
theorem isRt_zero {l : List UInt8} (h : 1 < l.length) (h0 : l.head? = some 48) : isRt l = false := by
  unfold isRt
  rw [h0]
  simp [h]
theorem isRt_main {l : List UInt8} (h1 : 1 ≤ l.length) (h : l.length ≤ 400) (h0 : ¬ (1 < l.length ∧ l.head? = some 48)) : isRt l = l.all isDg := by
  unfold isRt
  have : (decide (1 < l.length) && l.head? == some 48) = false := by
    by_cases h2 : 1 < l.length
    · simp only [h2, true_and] at h0
      simp [h0]
    · simp [h2]
  rw [this]
  simp [h1, h]

theorem head_of (s : ByteArray) (h : 0 < s.size) : s.data.toList.head? = some s[0] := by
  have h' : 0 < s.data.toList.length := by rw [len_str]; exact h
  rw [List.head?_eq_getElem?, List.getElem?_eq_getElem h']
  rfl
theorem byte48 (c : UInt8) : c = 48 ↔ ((c.toNat : Nat) : Int) = 48 := by
  rw [← UInt8.toNat_inj]
  constructor
  · intro h; rw [h]; rfl
  · intro h
    have : c.toNat = 48 := by omega
    rw [this]; rfl

set_option maxRecDepth 100000 in
theorem right_calls (s : ByteArray) (w : World) (hs : s.size ≤ 140737488355328) :
    Calls Tryz.prog 152 #[.string s] w fun e w' => e = .returned (.bool (isRt s.data.toList)) ∧ Below w.heap.size w w' := by
  by_cases h0 : s.size = 0
  · obtain ⟨h1, h2⟩ := emp_of s h0
    have hf : Hid (isRt s.data.toList = false) := by rw [h2]; exact rfl
    clear h2 h0
    go_enter Tryz.func152, Tryz.ntmps152
    go_wp2
    go_ret
    exact ⟨ret_bool hf.out.symm, Below.refl _ _⟩
  · obtain ⟨h1, h2⟩ := ne_of s h0
    have hlen := len_str s
    have hpos : 0 < s.size := by omega
    have hhd := head_of s hpos
    by_cases h400 : 400 < s.size
    · have hf : Hid (isRt s.data.toList = false) := isRt_long (by rw [hlen]; exact h400)
      clear hhd hlen
      go_enter Tryz.func152, Tryz.ntmps152
      go_wp2
      go_ret
      exact ⟨ret_bool hf.out.symm, Below.refl _ _⟩
    · by_cases h48 : ((s[0].toNat : Nat) : Int) = 48
      · by_cases h1' : 1 < s.size
        · have hf : Hid (isRt s.data.toList = false) := isRt_zero (by rw [hlen]; exact h1') (by rw [hhd, (byte48 _).2 h48])
          have h48' : (((s[0].toNat : Nat) : Int) == 48) = true := by simpa using h48
          clear hhd hlen
          go_enter Tryz.func152, Tryz.ntmps152
          go_wp2
          go_ret
          exact ⟨ret_bool hf.out.symm, Below.refl _ _⟩
        · have hf : Hid (isRt s.data.toList = s.data.toList.all isDg) := isRt_main (by omega) (by omega) (by omega)
          have h48' : (((s[0].toNat : Nat) : Int) == 48) = true := by simpa using h48
          clear hhd hlen
          go_enter Tryz.func152, Tryz.ntmps152
          go_wp2_with (go_at_call 176; refine (trim_digs s _ hs).mono ?_; rintro e w' ⟨rfl, hb⟩)
          go_ret
          exact ⟨ret_bool ((trim_all _).trans hf.out.symm), hb⟩
      · have hf : Hid (isRt s.data.toList = s.data.toList.all isDg) := isRt_main (by omega) (by omega) (by rw [hhd]; simp only [Option.some.injEq, byte48]; omega)
        have h48' : (((s[0].toNat : Nat) : Int) == 48) = false := by simpa using h48
        clear hhd hlen
        go_enter Tryz.func152, Tryz.ntmps152
        go_wp2_with (go_at_call 176; refine (trim_digs s _ hs).mono ?_; rintro e w' ⟨rfl, hb⟩)
        go_ret
        exact ⟨ret_bool ((trim_all _).trans hf.out.symm), hb⟩
end Go.Proofs.YtpjlepkdiaohiaaGreatDoor

/- Plain laws for the document's own reckoning with digits: no program in sight. -/
namespace Go.Proofs.YtpjlepkdiaohiaaGreatDoor
open Go

/-- all digits. -/
def Dgs (l : List UInt8) : Prop := ∀ c ∈ l, isDg c = true
theorem Dgs.nil : Dgs [] := fun _ h => by cases h
theorem Dgs.cons {c : UInt8} {l : List UInt8} (h : isDg c = true) (hl : Dgs l) : Dgs (c :: l) := fun x hx => by
  rcases List.mem_cons.1 hx with rfl | hx
  · exact h
  · exact hl x hx
theorem Dgs.append {a b : List UInt8} (ha : Dgs a) (hb : Dgs b) : Dgs (a ++ b) := fun x hx => by
  rcases List.mem_append.1 hx with hx | hx
  · exact ha x hx
  · exact hb x hx
theorem Dgs.tail {c : UInt8} {l : List UInt8} (h : Dgs (c :: l)) : Dgs l := fun x hx => h x (List.mem_cons_of_mem _ hx)
theorem Dgs.take {l : List UInt8} (h : Dgs l) (k : Nat) : Dgs (l.take k) := fun x hx => h x (List.mem_of_mem_take hx)
theorem Dgs.drop {l : List UInt8} (h : Dgs l) (k : Nat) : Dgs (l.drop k) := fun x hx => h x (List.mem_of_mem_drop hx)
theorem Dgs.dec (u : Nat) : Dgs (Lib.decDigits u) := dec_isDg u
theorem Dgs.rt {l : List UInt8} (h : isRt l = true) : Dgs l := by
  have := ((isRt_iff _).1 h).1
  rw [this]; exact Dgs.dec _
theorem dgc {d : Nat} (h : d < 10) : isDg (UInt8.ofNat (48 + d)) = true := by
  unfold isDg; rw [byte_toNat (by omega)]; simp; try omega
theorem dgc_val {d : Nat} (h : d < 10) : (UInt8.ofNat (48 + d)).toNat - 48 = d := by rw [byte_toNat (by omega)]; omega
theorem dg_bounds {c : UInt8} (h : isDg c = true) : 48 ≤ c.toNat ∧ c.toNat ≤ 57 := by
  unfold isDg at h; rw [Bool.and_eq_true, decide_eq_true_eq, decide_eq_true_eq] at h; exact h
theorem Dgs.at {l : List UInt8} (h : Dgs l) {k : Nat} (hk : k < l.length) : 48 ≤ (l[k]).toNat ∧ (l[k]).toNat ≤ 57 := dg_bounds (h _ (List.getElem_mem hk))

theorem nv_nil : nv [] = 0 := rfl
theorem nv_cons (c : UInt8) (l : List UInt8) : nv (c :: l) = (c.toNat - 48) * 10 ^ l.length + nv l := by
  have := nv_append [c] l
  rw [List.singleton_append] at this
  rw [this]; simp [nv, nvA_cons, nvA_nil]
theorem nv_bound : ∀ {l : List UInt8}, Dgs l → nv l < 10 ^ l.length
  | [], _ => by simp [nv_nil]
  | c :: l, h => by
    have ih := nv_bound h.tail
    have hc := dg_bounds (h c (by simp))
    rw [nv_cons, List.length_cons, Nat.pow_succ]
    have : (c.toNat - 48) * 10 ^ l.length ≤ 9 * 10 ^ l.length := Nat.mul_le_mul_right _ (by omega)
    omega

/-- without zeros ahead. -/
def trimL : List UInt8 → List UInt8
  | c :: d :: r => if c = 48 then trimL (d :: r) else c :: d :: r
  | l => l
theorem trimL_one (c : UInt8) : trimL [c] = [c] := by unfold trimL; rfl
theorem trimL_zero (d : UInt8) (r : List UInt8) : trimL (48 :: d :: r) = trimL (d :: r) := by rw [trimL, if_pos rfl]
theorem trimL_other {c : UInt8} (h : c ≠ 48) (r : List UInt8) : trimL (c :: r) = c :: r := by
  cases r with
  | nil => exact trimL_one c
  | cons d r => rw [trimL, if_neg h]
theorem trimL_dec : ∀ {l : List UInt8}, l ≠ [] → Dgs l → trimL l = Lib.decDigits (nv l)
  | [], h, _ => absurd rfl h
  | [c], _, hd => by
    rw [trimL_one]
    exact ((dec_nv [c] (by simp) (fun h => by simp at h) hd).1).symm
  | c :: d :: r, _, hd => by
    by_cases hc : c = 48
    · subst hc
      rw [trimL_zero, trimL_dec (by simp) hd.tail]
      have e : nv (48 :: d :: r) = nv (d :: r) := rfl
      rw [e]
    · rw [trimL_other hc]
      exact ((dec_nv (c :: d :: r) (by simp) (fun _ h => hc (by simpa using h)) hd).1).symm

/-- the digit at a place from the end on. -/
def dgt (l : List UInt8) (i : Nat) : Nat := if i < l.length then (l[l.length - 1 - i]?.getD 48).toNat - 48 else 0
theorem dgt_eq {l : List UInt8} (h : Dgs l) (i : Nat) : dgt l i = nv l / 10 ^ i % 10 := by
  unfold dgt
  by_cases hi : i < l.length
  · rw [if_pos hi]
    have hs : l = l.take (l.length - 1 - i) ++ ([l[l.length - 1 - i]] ++ l.drop (l.length - 1 - i + 1)) := by
      rw [List.singleton_append, ← List.drop_eq_getElem_cons (by omega), List.take_append_drop]
    have hb := nv_bound (h.drop (l.length - 1 - i + 1))
    have hl : (l.drop (l.length - 1 - i + 1)).length = i := by rw [List.length_drop]; omega
    rw [hl] at hb
    have hc := h.at (k := l.length - 1 - i) (by omega)
    rw [List.getElem?_eq_getElem (by omega), Option.getD_some]
    have hv := congrArg nv hs
    rw [nv_append, nv_append, List.length_append, hl, List.length_singleton, nv_cons, List.length_nil, nv_nil] at hv
    rw [hv]
    generalize nv (l.take (l.length - 1 - i)) = p
    generalize nv (l.drop (l.length - 1 - i + 1)) = q at hb
    generalize l[l.length - 1 - i].toNat = c at hc
    have e : p * 10 ^ (1 + i) + (((c - 48) * 10 ^ 0 + 0) * 10 ^ i + q) = q + 10 ^ i * (10 * p + (c - 48)) := by
      rw [Nat.pow_add, Nat.pow_one, Nat.pow_zero, Nat.mul_one, Nat.add_zero, Nat.mul_add, ← Nat.mul_assoc p, Nat.mul_comm (10 ^ i) (10 * p), Nat.mul_comm (10 ^ i) (c - 48), Nat.mul_comm p 10]
      omega
    rw [e, Nat.add_mul_div_left _ _ (Nat.pow_pos (by omega)), Nat.div_eq_of_lt hb]
    omega
  · rw [if_neg hi]
    have hb := nv_bound h
    have : nv l < 10 ^ i := Nat.lt_of_lt_of_le hb (Nat.pow_le_pow_right (by omega) (by omega))
    rw [Nat.div_eq_of_lt this]

theorem dgt_lt (l : List UInt8) (h : Dgs l) (i : Nat) : dgt l i ≤ 9 := by rw [dgt_eq h]; omega
theorem div_pow_succ (n i : Nat) : n / 10 ^ (i + 1) = n / 10 ^ i / 10 := by rw [Nat.pow_succ, Nat.div_div_eq_div_mul]
theorem div_pow_step {l : List UInt8} (h : Dgs l) (i : Nat) : nv l / 10 ^ i = 10 * (nv l / 10 ^ (i + 1)) + dgt l i := by
  rw [dgt_eq h, div_pow_succ]; omega
theorem div_pow_big {l : List UInt8} (h : Dgs l) {i : Nat} (hi : l.length ≤ i) : nv l / 10 ^ i = 0 :=
  Nat.div_eq_of_lt (Nat.lt_of_lt_of_le (nv_bound h) (Nat.pow_le_pow_right (by omega) hi))
theorem mod_pow_step {l : List UInt8} (h : Dgs l) (i : Nat) : nv l % 10 ^ (i + 1) = nv l % 10 ^ i + 10 ^ i * dgt l i := by
  rw [dgt_eq h, Nat.pow_succ, Nat.mod_mul]
theorem mod_pow_big {l : List UInt8} (h : Dgs l) {i : Nat} (hi : l.length ≤ i) : nv l % 10 ^ i = nv l :=
  Nat.mod_eq_of_lt (Nat.lt_of_lt_of_le (nv_bound h) (Nat.pow_le_pow_right (by omega) hi))

/-- a step of a sum that is written from its end on. -/
theorem out_step {out : List UInt8} {i _c t n : Nat} (ho : out.length = i) (h : nv out + 10 ^ i * n = t) :
    nv (UInt8.ofNat (48 + n % 10) :: out) + 10 ^ (i + 1) * (n / 10) = t := by
  rw [nv_cons, dgc_val (by omega), ho, ← h, Nat.pow_succ, Nat.mul_assoc, Nat.mul_comm (n % 10), Nat.add_comm (10 ^ i * (n % 10)), Nat.add_assoc, ← Nat.mul_add]
  congr 2
  omega
theorem out_step' {out : List UInt8} {i t n r : Nat} (ho : out.length = i) (h : nv out + 10 ^ i * (n + 10 * r) = t) :
    nv (UInt8.ofNat (48 + n % 10) :: out) + 10 ^ (i + 1) * (n / 10 + r) = t := by
  rw [nv_cons, dgc_val (by omega), ho, ← h, Nat.pow_succ, Nat.mul_assoc, Nat.mul_comm (n % 10), Nat.add_comm (10 ^ i * (n % 10)), Nat.add_assoc, ← Nat.mul_add]
  congr 2
  omega

/-- add's step. -/
theorem radd_step {a b out : List UInt8} (ha : Dgs a) (hb : Dgs b) {i c : Nat} (ho : out.length = i) (h : nv out + 10 ^ i * (c + nv a / 10 ^ i + nv b / 10 ^ i) = nv a + nv b) :
    nv (UInt8.ofNat (48 + (dgt a i + dgt b i + c) % 10) :: out) + 10 ^ (i + 1) * ((dgt a i + dgt b i + c) / 10 + nv a / 10 ^ (i + 1) + nv b / 10 ^ (i + 1)) = nv a + nv b := by
  rw [Nat.add_assoc ((dgt a i + dgt b i + c) / 10)]
  refine out_step' ho ?_
  rw [← h, div_pow_step ha i, div_pow_step hb i]
  congr 2
  omega
theorem radd_done {a b out : List UInt8} (ha : Dgs a) (hb : Dgs b) {i : Nat} (h1 : a.length ≤ i) (h2 : b.length ≤ i) (h : nv out + 10 ^ i * (0 + nv a / 10 ^ i + nv b / 10 ^ i) = nv a + nv b) : nv out = nv a + nv b := by
  rw [div_pow_big ha h1, div_pow_big hb h2] at h
  simpa using h

/-- Sub's step: d is the digit, c what was borrowed. -/
theorem rsub_step {a b out : List UInt8} (ha : Dgs a) (hb : Dgs b) {i c c' d : Nat} (ho : out.length = i) (hd : d < 10) (h : nv out + nv b % 10 ^ i = nv a % 10 ^ i + 10 ^ i * c) (hs : d + dgt b i + c = dgt a i + 10 * c') :
    nv (UInt8.ofNat (48 + d) :: out) + nv b % 10 ^ (i + 1) = nv a % 10 ^ (i + 1) + 10 ^ (i + 1) * c' := by
  rw [nv_cons, dgc_val hd, ho, mod_pow_step ha, mod_pow_step hb, Nat.pow_succ, Nat.mul_assoc]
  have e := congrArg (fun x => 10 ^ i * x) hs
  simp only [Nat.mul_add] at e
  rw [Nat.mul_comm d]
  omega
theorem rsub_done {a b out : List UInt8} (ha : Dgs a) (_hb : Dgs b) {c : Nat} (ho : out.length = a.length) (hod : Dgs out) (hle : nv b ≤ nv a) (h : nv out + nv b % 10 ^ a.length = nv a % 10 ^ a.length + 10 ^ a.length * c) : nv out = nv a - nv b := by
  have h1 := nv_bound ha
  have h2 := nv_bound hod
  rw [Nat.mod_eq_of_lt h1, Nat.mod_eq_of_lt (Nat.lt_of_le_of_lt hle h1)] at h
  rw [ho] at h2
  cases c with
  | zero => rw [Nat.mul_zero] at h; omega
  | succ c => rw [Nat.mul_succ] at h; omega

/-- cells of tens. -/
def tens : List Nat → Nat
  | [] => 0
  | x :: r => x + 10 * tens r
theorem tens_append (a b : List Nat) : tens (a ++ b) = tens a + 10 ^ a.length * tens b := by
  induction a with
  | nil => simp [tens]
  | cons x r ih =>
    rw [List.cons_append, tens, tens, ih, List.length_cons, Nat.pow_succ, Nat.mul_add, ← Nat.mul_assoc, Nat.mul_comm 10 (10 ^ r.length), Nat.add_assoc]
theorem tens_zero (n : Nat) : tens (List.replicate n 0) = 0 := by
  induction n with
  | zero => rfl
  | succ n ih => rw [List.replicate_succ, tens, ih]
theorem tens_split {l : List Nat} {i : Nat} (hi : i < l.length) : tens l = tens (l.take i) + 10 ^ i * (l[i]?.getD 0 + 10 * tens (l.drop (i + 1))) := by
  have h : l = l.take i ++ (l[i]?.getD 0 :: l.drop (i + 1)) := by
    rw [List.getElem?_eq_getElem hi, Option.getD_some, ← List.drop_eq_getElem_cons hi, List.take_append_drop]
  have h2 := congrArg tens h
  rw [tens_append, tens, List.length_take, Nat.min_eq_left (by omega)] at h2
  exact h2
theorem tens_set {l : List Nat} {i : Nat} (hi : i < l.length) (d : Nat) : tens (l.set i (l[i]?.getD 0 + d)) = tens l + 10 ^ i * d := by
  rw [tens_split (l := l.set i (l[i]?.getD 0 + d)) (i := i) (by simpa using hi), tens_split hi, List.take_set_of_le (Nat.le_refl i), List.drop_set_of_lt (by omega), List.getElem?_set_self hi, Option.getD_some]
  simp only [Nat.mul_add]
  omega
theorem tens_drop (l : List Nat) (i : Nat) : tens (l.drop i) = l[i]?.getD 0 + 10 * tens (l.drop (i + 1)) := by
  by_cases h : i < l.length
  · rw [List.drop_eq_getElem_cons h, tens, List.getElem?_eq_getElem h]; rfl
  · rw [List.drop_of_length_le (by omega), List.drop_of_length_le (by omega), List.getElem?_eq_none (by omega)]; rfl

/-- mul's inner step. -/
theorem rmul_step {a b : List UInt8} (hb : Dgs b) {l : List Nat} {i k : Nat} (hik : i + k < l.length) (h : tens l = nv a % 10 ^ i * nv b + 10 ^ i * (dgt a i * (nv b % 10 ^ k))) :
    tens (l.set (i + k) (l[i + k]?.getD 0 + dgt a i * dgt b k)) = nv a % 10 ^ i * nv b + 10 ^ i * (dgt a i * (nv b % 10 ^ (k + 1))) := by
  rw [tens_set hik, h, mod_pow_step hb, Nat.pow_add, Nat.mul_add (dgt a i), Nat.mul_add (10 ^ i), Nat.add_assoc]
  congr 2
  rw [Nat.mul_assoc]
  congr 1
  rw [← Nat.mul_assoc, ← Nat.mul_assoc, Nat.mul_comm (10 ^ k)]
theorem rmul_next {a b : List UInt8} (ha : Dgs a) (hb : Dgs b) {l : List Nat} {i : Nat} (h : tens l = nv a % 10 ^ i * nv b + 10 ^ i * (dgt a i * (nv b % 10 ^ b.length))) :
    tens l = nv a % 10 ^ (i + 1) * nv b + 10 ^ (i + 1) * (dgt a (i + 1) * (nv b % 10 ^ 0)) := by
  rw [h, mod_pow_big hb (Nat.le_refl _), mod_pow_step ha, Nat.pow_zero, Nat.mod_one, Nat.mul_zero, Nat.mul_zero, Nat.add_zero, Nat.add_mul, Nat.mul_assoc]
theorem rcar_step {l : List Nat} {out : List UInt8} {i c t : Nat} (ho : out.length = i) (h : nv out + 10 ^ i * (c + tens (l.drop i)) = t) :
    nv (UInt8.ofNat (48 + (l[i]?.getD 0 + c) % 10) :: out) + 10 ^ (i + 1) * ((l[i]?.getD 0 + c) / 10 + tens (l.drop (i + 1))) = t := by
  refine out_step' ho ?_
  rw [← h, tens_drop l i]
  congr 2
  omega
theorem rcar_done {a b out : List UInt8} {l : List Nat} (ha : Dgs a) (hb : Dgs b) {c : Nat} (hl : l.length = a.length + b.length) (_ho : out.length = l.length) (h : nv out + 10 ^ l.length * (c + tens (l.drop l.length)) = nv a * nv b) : nv out = nv a * nv b := by
  have h1 := nv_bound ha
  have h2 := nv_bound hb
  have h3 : nv a * nv b < 10 ^ l.length := by
    rw [hl, Nat.pow_add]
    exact Nat.mul_lt_mul_of_lt_of_le h1 (Nat.le_of_lt h2) (Nat.pow_pos (by omega))
  rw [List.drop_of_length_le (Nat.le_refl _), tens, Nat.add_zero] at h
  cases c with
  | zero => rw [Nat.mul_zero] at h; omega
  | succ c => rw [Nat.mul_succ] at h; omega

/-- Div's step. -/
theorem rdiv_step {out p : List UInt8} {c : UInt8} {r by' : Nat} (hb : 0 < by') (hr : r < by') (hc : isDg c = true) (h : nv out * by' + r = nv p) :
    (10 * r + (c.toNat - 48)) / by' < 10 ∧ nv (out ++ [UInt8.ofNat (48 + (10 * r + (c.toNat - 48)) / by')]) * by' + (10 * r + (c.toNat - 48)) % by' = nv (p ++ [c]) ∧ (10 * r + (c.toNat - 48)) % by' < by' := by
  have hcb := dg_bounds hc
  have h1 : (10 * r + (c.toNat - 48)) / by' < 10 := by
    rw [Nat.div_lt_iff_lt_mul hb]; omega
  refine ⟨h1, ?_, Nat.mod_lt _ hb⟩
  rw [nv_snoc, nv_snoc, dgc_val h1, ← h]
  have := Nat.div_add_mod (10 * r + (c.toNat - 48)) by'
  rw [Nat.mul_comm by'] at this
  rw [Nat.add_mul, Nat.add_assoc, this, Nat.add_mul, Nat.mul_right_comm]
  omega
theorem rdiv_done {out p : List UInt8} {r by' : Nat} (hb : 0 < by') (hr : r < by') (h : nv out * by' + r = nv p) : nv out = nv p / by' ∧ r = nv p % by' := by
  rw [← h, Nat.add_comm, Nat.add_mul_div_right _ _ hb, Nat.div_eq_of_lt hr, Nat.add_mul_mod_self_right, Nat.mod_eq_of_lt hr]
  exact ⟨(Nat.zero_add _).symm, rfl⟩

/-- texts of one length, the same up to a place. -/
theorem nv_less {a b : List UInt8} (ha : Dgs a) (hb : Dgs b) (hl : a.length = b.length) {i : Nat} (hi : i < a.length) (ht : a.take i = b.take i) (h : (a[i]).toNat < (b[i]'(by omega)).toNat) : nv a < nv b := by
  have sa : a = a.take i ++ ([a[i]] ++ a.drop (i + 1)) := by rw [List.singleton_append, ← List.drop_eq_getElem_cons hi, List.take_append_drop]
  have sb : b = b.take i ++ ([b[i]'(by omega)] ++ b.drop (i + 1)) := by rw [List.singleton_append, ← List.drop_eq_getElem_cons (by omega), List.take_append_drop]
  have ba := nv_bound (ha.drop (i + 1))
  have ca := ha.at hi
  have cb := hb.at (k := i) (by omega)
  rw [congrArg nv sa, congrArg nv sb]
  rw [nv_append, nv_append, nv_append, nv_append, ht]
  simp only [List.length_append, List.length_drop, List.length_singleton] at ba ⊢
  rw [hl] at ba ⊢
  generalize nv (List.take i b) = p
  generalize nv (List.drop (i + 1) a) = q at *
  generalize nv (List.drop (i + 1) b) = s
  rw [nv_cons, nv_cons, List.length_nil, Nat.pow_zero, Nat.mul_one, Nat.mul_one, nv_nil]
  simp only [Nat.add_zero]
  generalize a[i].toNat = x at *
  generalize (b[i]'(by omega)).toNat = y at *
  have : (x - 48 + 1) * 10 ^ (b.length - (i + 1)) ≤ (y - 48) * 10 ^ (b.length - (i + 1)) := Nat.mul_le_mul_right _ (by omega)
  rw [Nat.add_mul, Nat.one_mul] at this
  omega
/-- the shorter one is less. -/
theorem nv_shorter {a b : List UInt8} (ha : isRt a = true) (hb : isRt b = true) (hl : a.length < b.length) : nv a < nv b := by
  have h1 := nv_bound (Dgs.rt ha)
  have hb' := (isRt_iff _).1 hb
  have hge : 10 ^ (b.length - 1) ≤ nv b := by
    have key : ∀ k n, n < 10 ^ k → (Lib.decDigits n).length ≤ max k 1 := by
      intro k
      induction k with
      | zero => intro n h; rw [show n = 0 by simpa using h, dec_small (by omega)]; simp
      | succ k ih =>
        intro n h
        by_cases h10 : n < 10
        · rw [dec_small h10]; simp; try omega
        · have := ih (n / 10) (by rw [Nat.pow_succ] at h; omega)
          rw [dec_big h10, List.length_append, List.length_singleton]
          cases k with
          | zero => simp at h; omega
          | succ k => omega
    by_cases hge : 10 ^ (b.length - 1) ≤ nv b
    · exact hge
    · have := key (b.length - 1) (nv b) (by omega)
      rw [← hb'.1] at this
      have ha0 : 1 ≤ a.length := by
        have := dec_ne_nil (nv a)
        rw [← ((isRt_iff _).1 ha).1] at this
        exact List.length_pos_iff.2 this
      omega
  exact Nat.lt_of_lt_of_le h1 (Nat.le_trans (Nat.pow_le_pow_right (by omega) (by omega)) hge)
theorem rdig_le : ∀ {k u : Nat}, u < 10 ^ k → Lib.nDigits u ≤ k + 1
  | 0, u, h => by
    have : u = 0 := by simpa using h
    subst this
    rw [Lib.nDigits_small (by omega)]; omega
  | k + 1, u, h => by
    by_cases h10 : u < 10
    · rw [Lib.nDigits_small h10]; omega
    · rw [Lib.nDigits_big h10]
      have := rdig_le (k := k) (u := u / 10) (by rw [Nat.pow_succ] at h; omega)
      omega
theorem rdg_lt (n : Nat) : n < 10 ^ Lib.nDigits n := by
  have h := nv_bound (Dgs.dec n)
  rwa [nv_dec, Lib.decDigits_length] at h
theorem rdig_lt : ∀ (k n : Nat), n < 10 ^ (k + 1) → Lib.nDigits n ≤ k + 1
  | 0, n, h => by rw [← Lib.decDigits_length, dec_small (by simpa using h)]; simp
  | k + 1, n, h => by
    by_cases h2 : n < 10
    · rw [← Lib.decDigits_length, dec_small h2]; simp
    · have := rdig_lt k (n / 10) (by rw [Nat.pow_succ] at h; exact Nat.div_lt_of_lt_mul (by rw [Nat.mul_comm]; exact h))
      rw [← Lib.decDigits_length] at this ⊢
      rw [dec_big h2, List.length_append]
      simpa using this
theorem rdig_one (n : Nat) : 1 ≤ Lib.nDigits n := by
  rw [← Lib.decDigits_length]
  exact List.length_pos_iff.2 (dec_ne_nil n)
theorem rdig_up {m n : Nat} (h : m ≤ n) : Lib.nDigits m ≤ Lib.nDigits n := by
  have h1 := rdig_one n
  have h2 := rdg_lt n
  obtain ⟨k, hk⟩ : ∃ k, Lib.nDigits n = k + 1 := ⟨Lib.nDigits n - 1, by omega⟩
  rw [hk] at h2 ⊢
  exact rdig_lt k m (Nat.lt_of_le_of_lt h h2)
theorem rpow_up {b m n : Nat} (hmn : m ≤ n) (h : ¬ Lib.nDigits (b ^ m) ≤ 400) : ¬ Lib.nDigits (b ^ n) ≤ 400 := by
  by_cases hb : b = 0
  · exfalso
    apply h
    have h1 : b ^ m ≤ 1 := by
      subst hb
      cases m with
      | zero => simp
      | succ m => rw [Nat.pow_succ]; simp
    have := rdig_up h1
    have h2 : Lib.nDigits 1 ≤ 1 := rdig_lt 0 1 (by decide)
    omega
  · have := rdig_up (Nat.pow_le_pow_right (n := b) (by omega) hmn)
    omega
theorem rmul_digits {m n j k : Nat} (hm : Lib.nDigits m ≤ j) (hn : Lib.nDigits n ≤ k) : Lib.nDigits (m * n) ≤ j + k + 1 := by
  refine rdig_le ?_
  rw [Nat.pow_add]
  exact Nat.mul_lt_mul_of_lt_of_le (Nat.lt_of_lt_of_le (rdg_lt m) (Nat.pow_le_pow_right (by omega) hm)) (Nat.le_of_lt (Nat.lt_of_lt_of_le (rdg_lt n) (Nat.pow_le_pow_right (by omega) hn))) (Nat.pow_pos (by omega))
theorem rt_len {l : List UInt8} (h : isRt l = true) : 1 ≤ l.length ∧ l.length ≤ 400 := by
  have g := (isRt_iff _).1 h
  have := dec_ne_nil (nv l)
  rw [← g.1] at this
  exact ⟨List.length_pos_iff.2 this, g.2⟩
end Go.Proofs.YtpjlepkdiaohiaaGreatDoor

/- The document's own naturals (targumref01): Right, Trim, digit, ends, Of: walked. -/
namespace Go.Proofs.YtpjlepkdiaohiaaGreatDoor
open Go.RowKit
attribute [local go_sem] Oper.semAt_some

theorem same_symm {f : FuncId} {args : Array Value} {w : World} {E : Ending} (h : Calls Tryz.prog f args w fun e w' => e = E ∧ w' = w) : Calls Tryz.prog f args w fun e w' => e = E ∧ w = w' :=
  h.mono fun _ _ h => ⟨h.1, h.2.symm⟩
theorem isRt_no {l : List UInt8} (h : l = [] ∨ 400 < l.length ∨ (1 < l.length ∧ l.head? = some 48) ∨ ∃ c ∈ l, isDg c = false) : isRt l = false := by
  cases e : isRt l with
  | false => rfl
  | true =>
    exfalso
    simp only [isRt, Bool.and_eq_true, decide_eq_true_eq, Bool.not_eq_true', List.all_eq_true] at e
    obtain ⟨⟨⟨h1, h2⟩, h3⟩, h4⟩ := e
    rcases h with rfl | h | ⟨h, h'⟩ | ⟨c, hc, h⟩
    · simp at h1
    · omega
    · rw [h'] at h3; simp [h] at h3
    · rw [h4 c hc] at h; cases h
theorem isRt_yes {l : List UInt8} (h1 : l ≠ []) (h2 : l.length ≤ 400) (h3 : 1 < l.length → l.head? ≠ some 48) (h4 : Dgs l) : isRt l = true := by
  simp only [isRt, Bool.and_eq_true, decide_eq_true_eq, Bool.not_eq_true', List.all_eq_true]
  refine ⟨⟨⟨List.length_pos_iff.2 h1, h2⟩, ?_⟩, h4⟩
  by_cases h : 1 < l.length
  · simp [h3 h]
  · simp [h]

theorem txs_len (s : ByteArray) : (tx s).length = s.size := len_str s
theorem txs_at (s : ByteArray) {k : Nat} (h : k < s.size) : (tx s)[k]'(by rw [txs_len]; exact h) = s[k] := rfl
theorem txs_take (s : ByteArray) {k : Nat} (h : k < s.size) : (tx s).take (k + 1) = (tx s).take k ++ [s[k]] := by
  rw [List.take_succ_eq_append_getElem (by rw [txs_len]; exact h)]; rfl
theorem isDg_of {c : UInt8} (h : 48 ≤ c.toNat ∧ c.toNat ≤ 57) : isDg c = true := by unfold isDg; simp; omega
theorem isDg_not {c : UInt8} (h : c.toNat < 48 ∨ 57 < c.toNat) : isDg c = false := by
  cases e : isDg c with
  | false => rfl
  | true => have := dg_bounds e; omega

set_option maxRecDepth 100000 in
set_option maxHeartbeats 1000000 in
theorem rRight_calls (s : ByteArray) (hs : s.size ≤ 140737488355328) (w : World) :
    Calls Tryz.prog 77 #[.string s] w fun e w' => e = .returned (.bool (isRt (tx s))) ∧ w' = w := by
  have hl := txs_len s
  by_cases h0 : s.size = 0
  · have hr := hid (isRt_no (l := tx s) (.inl (List.eq_nil_of_length_eq_zero (by omega))))
    have h0i : (s.size : Int) < 1 := by omega
    clear h0 hl
    go_enter Tryz.func77, Tryz.ntmps77
    go_wp2
    go_ret
    exact ⟨ret_bool hr.out.symm, rfl⟩
  by_cases h4 : 400 < s.size
  · have hr := hid (isRt_no (l := tx s) (.inr (.inl (by omega))))
    have h0i : ¬ (s.size : Int) < 1 := by omega
    clear h0 hl
    go_enter Tryz.func77, Tryz.ntmps77
    go_wp2
    go_ret
    exact ⟨ret_bool hr.out.symm, rfl⟩
  have hpos : 0 < s.size := by omega
  have hloop : ∀ (hz : 1 < s.size → s[0] ≠ 48) , (1 < s.size ∨ s.size = 1) → Calls Tryz.prog 77 #[.string s] w fun e w' => e = .returned (.bool (isRt (tx s))) ∧ w' = w := by
    intro hz hsz
    have hh : 1 < s.size → (tx s).head? ≠ some 48 := fun h e => hz h (Option.some.inj ((head_of s hpos).symm.trans e))
    have HH := hid (And.intro hh hl)
    have h1i : ¬ (s.size : Int) < 1 := by omega
    have h4i : ¬ (400 : Int) < (s.size : Int) := by omega
    have hb0 : 1 < s.size → (((s[0].toNat : Nat) : Int) == 48) = false := fun h => by
      rw [beq_eq_false_iff_ne]; intro e; exact hz h ((byte48 _).2 e)
    clear hh hz hl
    have hsz2 : ((((s[0].toNat : Nat) : Int) == 48) = false ∧ 1 < s.size) ∨ (s.size : Int) ≤ 1 := by
      rcases hsz with hsz | hsz
      · exact .inl ⟨hb0 hsz, hsz⟩
      · exact .inr (by omega)
    clear hb0 hsz
    rcases hsz2 with ⟨hb0, hsz⟩ | hsz
    all_goals (
      go_enter Tryz.func77, Tryz.ntmps77
      go_wp2
      go_loop [3] (fun i => ∃ k : Nat, i = .int .i64 k ∧ k ≤ s.size ∧ Dgs ((tx s).take k)) (fun i => s.size - (intOf i).toNat)
      case atStart => exact ⟨0, rfl, Nat.zero_le _, by rw [List.take_zero]; exact Dgs.nil⟩
      case round =>
        obtain ⟨k, rfl, hk, hD⟩ := hrel
        obtain ⟨hh, hl⟩ := id HH.out
        by_cases hlt : k < s.size
        · obtain ⟨ch, hch⟩ : ∃ ch, s[k] = ch := ⟨_, rfl⟩
          have htk := txs_take s hlt
          rw [hch] at htk
          have hcm : ch ∈ tx s := by rw [← hch]; exact List.getElem_mem (l := tx s) (by rw [txs_len]; exact hlt)
          by_cases hd : 48 ≤ ch.toNat ∧ ch.toNat ≤ 57
          · have HD := hid (show Dgs ((tx s).take (k + 1)) by rw [htk]; exact hD.append (Dgs.cons (isDg_of hd) Dgs.nil))
            obtain ⟨hd1, hd2⟩ := hd
            have e1 : (48 : Int) ≤ (ch.toNat : Int) := by omega
            have e2 : (ch.toNat : Int) ≤ 57 := by omega
            clear htk hcm hD hh hl
            go_wp2
            go_round
            case rel => exact ⟨k + 1, by go_num, hlt, HD.out⟩
            case measure => simp [intOf]; omega
          · have HN := hid (isRt_no (l := tx s) (.inr (.inr (.inr ⟨ch, hcm, isDg_not (by omega)⟩))))
            have hcase : (ch.toNat : Int) < 48 ∨ (48 ≤ (ch.toNat : Int) ∧ 57 < (ch.toNat : Int)) := by omega
            clear htk hcm hD hh hl hd
            rcases hcase with e1 | ⟨e1, e2⟩
            all_goals (
              go_wp2
              go_ret
              exact ⟨ret_bool HN.out.symm, rfl⟩)
        · rw [List.take_of_length_le (by omega)] at hD
          have HN := hid (isRt_yes (l := tx s) (by intro e; rw [e] at hl; simp at hl; omega) (by omega) (fun h => hh (by omega)) hD)
          clear hD hh hl
          go_wp2
          go_ret
          exact ⟨ret_bool HN.out.symm, rfl⟩)
  by_cases h1 : 1 < s.size
  · by_cases hz : s[0] = 48
    · have hr := hid (isRt_no (l := tx s) (.inr (.inr (.inl ⟨by omega, by rw [show (tx s).head? = some s[0] from head_of s hpos, hz]⟩))))
      have hb0 : (((s[0].toNat : Nat) : Int) == 48) = true := by rw [beq_iff_eq]; exact (byte48 _).1 hz
      have h1i : ¬ (s.size : Int) < 1 := by omega
      have h4i : ¬ (400 : Int) < (s.size : Int) := by omega
      clear hz h0 hl hloop
      go_enter Tryz.func77, Tryz.ntmps77
      go_wp2
      go_ret
      exact ⟨ret_bool hr.out.symm, rfl⟩
    · exact hloop (fun _ => hz) (.inl h1)
  · exact hloop (fun h => absurd h h1) (.inr (by omega))

def sizeV : Value → Nat
  | .string s => s.size
  | _ => 0

set_option maxRecDepth 100000 in
set_option maxHeartbeats 1000000 in
theorem rTrim_calls (s : ByteArray) (_hs : s.size ≤ 140737488355328) (w : World) :
    Calls Tryz.prog 48 #[.string s] w fun e w' => e = .returned (.string ⟨(trimL (tx s)).toArray⟩) ∧ w' = w := by
  go_enter Tryz.func48, Tryz.ntmps48
  go_wp2
  go_loop [0] (fun v => ∃ t : ByteArray, v = .string t ∧ t.size ≤ s.size ∧ trimL (tx t) = trimL (tx s)) (fun v => sizeV v)
  case atStart => exact ⟨s, rfl, Nat.le_refl _, rfl⟩
  case round =>
    obtain ⟨t, rfl, hts, ht⟩ := hrel
    have hl := txs_len t
    have HT := hid ht
    clear ht
    by_cases h1 : 1 < t.size
    · have hpos : 0 < t.size := by omega
      have hhd := head_of t hpos
      by_cases hz : t[0] = 48
      · have hb0 : (((t[0].toNat : Nat) : Int) == 48) = true := by rw [beq_iff_eq]; exact (byte48 _).1 hz
        have hx : tx (t.extract 1 t.size) = (tx t).drop 1 := by unfold tx; rw [Lib.extract_data, List.take_of_length_le (by rw [List.length_drop, len_str]; omega)]
        have hsz : (t.extract 1 t.size).size = t.size - 1 := by rw [← txs_len, hx, List.length_drop, txs_len]
        have hstep : trimL (tx (t.extract 1 t.size)) = trimL (tx t) := by
          rw [hx]
          rw [show t.data.toList = tx t from rfl, hz] at hhd
          match hm : tx t, hl, hhd with
          | [], hl, _ => rw [List.length_nil] at hl; omega
          | [_], hl, _ => rw [List.length_singleton] at hl; omega
          | c :: d :: r, _, hhd =>
            rw [List.head?_cons] at hhd
            rw [Option.some.inj hhd, trimL_zero]; rfl
        have HS := hid (And.intro hstep hsz)
        clear hstep hsz hx hz hhd hl
        go_wp2
        go_round
        case rel => exact ⟨_, rfl, by rw [HS.out.2]; omega, HS.out.1.trans HT.out⟩
        case measure => simp only [sizeV]; rw [HS.out.2]; omega
      · have hb0 : (((t[0].toNat : Nat) : Int) == 48) = false := by rw [beq_eq_false_iff_ne]; intro e; exact hz ((byte48 _).2 e)
        have hstep : trimL (tx t) = tx t := by
          rw [show t.data.toList = tx t from rfl] at hhd
          match hm : tx t, hhd with
          | [], h => cases h
          | c :: r, h => rw [List.head?_cons] at h; exact trimL_other (by rw [Option.some.inj h]; exact hz) r
        have HS := hid hstep
        clear hstep hz hhd hl
        go_wp2
        go_ret
        exact ⟨ret_str (by rw [← HT.out, HS.out]; exact (str_eq t).symm), rfl⟩
    · have hstep : trimL (tx t) = tx t := by
        match hm : tx t, hl with
        | [], _ => rfl
        | [c], _ => exact trimL_one c
        | c :: d :: r, h => simp at h; omega
      have HS := hid hstep
      clear hstep hl
      go_wp2
      go_ret
      exact ⟨ret_str (by rw [← HT.out, HS.out]; exact (str_eq t).symm), rfl⟩

end Go.Proofs.YtpjlepkdiaohiaaGreatDoor

/- The document's own naturals (targumref01): ends, Of: walked. -/
namespace Go.Proofs.YtpjlepkdiaohiaaGreatDoor
open Go.RowKit
attribute [local go_sem] Oper.semAt_some

/-- a text of one byte, made of a new array. -/
theorem conv_one (w : World) (x : Nat) (_hx : x < 256) (z : Int) (hz : z = (x : Int)) :
    (convert 41 9 (.slice (some ⟨w.heap.size, 0, none⟩) 1 1)).run Tryz.prog (w.alloc (.cells #[.int .u8 z] 5)) = .ok (.string ⟨#[UInt8.ofNat x]⟩) (w.alloc (.cells #[.int .u8 z] 5)) := by
  subst hz
  have hc : (w.alloc (.cells #[.int .u8 (x : Nat)] 5)).cell? ⟨w.heap.size, 0, none⟩ = some (.int .u8 (x : Nat)) := by
    rw [World.cell?_alloc_new]; rfl
  have h := run_convert_bytes_arg (P := Tryz.prog) (w.alloc (.cells #[.int .u8 (x : Nat)] 5)) 41 5 (by kernel_rfl) (by kernel_rfl) w.heap.size 0 1 1 [(x : Int)] (by rfl)
    (fun i hi => by obtain rfl : i = 0 := by omega
                    exact hc) 9 (by kernel_rfl)
  rw [h]
  simp [strOfNums]

/-- a text, behind a byte. -/
theorem str_cons (c : UInt8) (l : List UInt8) : (⟨#[c]⟩ : ByteArray) ++ ⟨l.toArray⟩ = ⟨(c :: l).toArray⟩ := by
  apply ByteArray.ext
  rw [ByteArray.data_append]
  simp
theorem str_snoc (c : UInt8) (l : List UInt8) : (⟨l.toArray⟩ : ByteArray) ++ ⟨#[c]⟩ = ⟨(l ++ [c]).toArray⟩ := by
  apply ByteArray.ext
  rw [ByteArray.data_append]
  simp

set_option maxRecDepth 100000 in
set_option maxHeartbeats 1000000 in
theorem rOf_calls : ∀ (n : Nat), n < 18446744073709551616 → ∀ (w : World),
    Calls Tryz.prog 35 #[.int .u64 n] w fun e w' => e = .returned (.string ⟨(Lib.decDigits n).toArray⟩) ∧ Below w.heap.size w w' := by
  intro n
  induction n using Nat.strongRecOn with
  | _ n ih =>
    intro hn w
    have hcv := conv_one w (48 + n % 10) (by omega) (48 + (n : Int) % 10) (by omega)
    obtain ⟨c, hc⟩ : ∃ c, UInt8.ofNat (48 + n % 10) = c := ⟨_, rfl⟩
    rw [hc] at hcv
    by_cases h : n < 10
    · have HD := hid (show Lib.decDigits n = [c] by rw [dec_small h, ← hc]; congr 2; omega)
      clear ih hc
      go_enter Tryz.func35, Tryz.ntmps35
      go_wp2
      go_ret
      exact ⟨ret_str (by rw [HD.out]), below_alloc w _⟩
    · have HD := hid (show Lib.decDigits n = Lib.decDigits (n / 10) ++ [c] by rw [dec_big h, ← hc])
      have hrec := ih (n / 10) (by omega) (by omega) (w.alloc (.cells #[.int .u8 (48 + (n : Int) % 10)] 5))
      have hlen : (Lib.decDigits (n / 10)).length ≤ 20 := by
        rw [Lib.decDigits_length]
        have := Lib.numDigits_eq (n / 10) (by omega) (by omega)
        split at this <;> omega
      obtain ⟨l, hl⟩ : ∃ l, Lib.decDigits (n / 10) = l := ⟨_, rfl⟩
      rw [hl] at hrec HD hlen
      have hge : (10 : Int) ≤ (n : Int) := by omega
      clear ih hc hl h
      go_enter Tryz.func35, Tryz.ntmps35
      go_wp2_with (go_at_call 35; refine hrec.mono ?_; rintro e w1 ⟨rfl, hb⟩)
      go_ret
      refine ⟨ret_str (by rw [HD.out, ← str_snoc]), (below_alloc w _).trans (hb.mono (by simp))⟩
end Go.Proofs.YtpjlepkdiaohiaaGreatDoor

/- Package nat: Of, To (apart from the rest of the package). -/
namespace Go.Proofs.YtpjlepkdiaohiaaGreatDoor
open Go.RowKit Go.Shelf
attribute [local go_sem] Oper.semAt_some

theorem natOf_calls (n : Nat) (hn : n < 18446744073709551616) (w : World) (hT : Tabs w) :
    Calls Tryz.prog 144 #[.int .u64 n] w fun e w' => e = .returned (.string ⟨(Lib.decDigits n).toArray⟩) ∧ Below w.heap.size w w' := by
  have h := formatUint n hn w hT
  go_enter Tryz.func144, Tryz.ntmps144
  go_wp2_with (go_at_call 171; refine h.mono ?_; rintro e w' ⟨rfl, hb⟩)
  go_ret
  exact ⟨rfl, hb⟩

def toN (s : ByteArray) : Nat := if isRt (tx s) && decide (nv (tx s) < 18446744073709551616) then nv (tx s) else 0
def toB (s : ByteArray) : Bool := isRt (tx s) && decide (nv (tx s) < 18446744073709551616)

set_option maxRecDepth 100000 in
theorem natTo_calls (s : ByteArray) (hs : s.size ≤ 140737488355328) (w : World) (hT : Tabs w) :
    Calls Tryz.prog 138 #[.string s] w fun e w' => e = .returned (.tuple #[.int .u64 (toN s), .bool (toB s)]) ∧ Below w.heap.size w w' := by
  have hright := right_calls s w hs
  cases hr : isRt s.data.toList with
  | false =>
    have hS : Hid ((0 : Nat) = toN s ∧ false = toB s) := by unfold toN toB tx; rw [hr]; exact ⟨rfl, rfl⟩
    rw [hr] at hright
    clear hr
    go_enter Tryz.func138, Tryz.ntmps138
    go_wp2_with (go_at_call 152; refine hright.mono ?_; rintro e w' ⟨rfl, hb⟩)
    go_ret2
    exact ⟨by rw [← hS.out.1, ← hS.out.2]; rfl, hb⟩
  | true =>
    rw [hr] at hright
    have hrt := (isRt_iff _).1 hr
    have hne : s.data.toList ≠ [] := by rw [hrt.1]; exact dec_ne_nil _
    have hdg : ∀ c ∈ s.data.toList, isDg c = true := fun c hc => by rw [hrt.1] at hc; exact dec_isDg _ c hc
    have hp := parse64 hne hdg
    by_cases hlt : nv s.data.toList < 18446744073709551616
    · rw [if_pos hlt] at hp
      have hS : Hid (nv s.data.toList = toN s ∧ true = toB s) := by unfold toN toB tx; rw [hr, decide_eq_true hlt]; exact ⟨rfl, rfl⟩
      obtain ⟨n, hn⟩ : ∃ n, nv s.data.toList = n := ⟨_, rfl⟩
      rw [hn] at hp hS
      clear hr hrt hne hdg hlt hn
      go_enter Tryz.func138, Tryz.ntmps138
      go_wp2_with (first
        | (go_at_call 152; refine hright.mono ?_; rintro e w' ⟨rfl, hb⟩)
        | (go_at_call 160; refine (Tryz.strconv_ParseUint_10_at64_ok s (by omega) n hp _).mono ?_; rintro e w2 ⟨rfl, hw2⟩))
      go_ret2
      refine ⟨by rw [← hS.out.1, ← hS.out.2]; rfl, hb.trans ?_⟩
      rcases hw2 with rfl | rfl
      · exact (Below.refl _ _).mono hb.size
      · exact (Lib.bytesWorld_below _ _ s).mono hb.size
    · rw [if_neg hlt] at hp
      have hS : Hid ((0 : Nat) = toN s ∧ false = toB s) := by unfold toN toB tx; rw [hr, decide_eq_false hlt]; exact ⟨rfl, rfl⟩
      clear hr hrt hne hdg hlt
      obtain ⟨tp, p, hvar⟩ := hT.2
      go_enter Tryz.func138, Tryz.ntmps138
      go_wp2_with (first
        | (go_at_call 152; refine hright.mono ?_; rintro e w' ⟨rfl, hb⟩)
        | (go_at_call 160; refine (Tryz.strconv_ParseUint_10_at64_range_var s (by omega) hp tp p _ (var_kept range_glob hvar hb)).mono ?_; rintro e w2 ⟨N, rfl, _, _, hw2⟩))
      go_ret2
      exact ⟨by rw [← hS.out.1, ← hS.out.2]; rfl, hb.trans (hw2.mono hb.size)⟩
end Go.Proofs.YtpjlepkdiaohiaaGreatDoor

/- A strings.Builder of the call's own: what it holds, as a text; strconv.Itoa. -/
namespace Go.Proofs.YtpjlepkdiaohiaaGreatDoor
open Go.RowKit

theorem tx_app (u v : ByteArray) : tx (u ++ v) = tx u ++ tx v := by unfold tx; rw [ByteArray.data_append, Array.toList_append]
theorem size_app (u v : ByteArray) : (u ++ v).size = u.size + v.size := by rw [← len_str, ← len_str u, ← len_str v, show (u ++ v).data.toList = tx (u ++ v) from rfl, tx_app, List.length_append]; rfl

def Bld (W : World) (b : Nat) (l : List UInt8) : Prop := Lib.IsBuilderF 60 5 b b (Lib.byteCells l) W
theorem Bld.new (W : World) : Bld (W.alloc (.cells #[.pointer none, .slice none 0 0] 60)) W.heap.size [] := builder_new W _ _
theorem Bld.below {W W' : World} {b : Nat} {l : List UInt8} (h : Bld W b l) (hb : Below W.heap.size W W') : Bld W' b l := (CellsKept.below hb).builder h

theorem bldS (b : Nat) (l : List UInt8) (s : ByteArray) (w : World) (h : Bld w b l) (hlen : l.length + s.size ≤ 140737488355328) (hb : b ≤ w.heap.size) :
    Calls Tryz.prog 118 #[.pointer (some ⟨b, 0, none⟩), .string s] w fun e w' => e = .returned (.tuple #[.int .i64 s.size, .nilIface]) ∧ Bld w' b (l ++ tx s) ∧ Below b w w' :=
  (Tryz.Builder_WriteString_k b b _ s w h (by rw [Lib.byteCells_length]; exact hlen) hb).mono fun e w' ⟨h1, h2, h3, _⟩ => ⟨h1, by
    unfold Bld
    rw [Lib.byteCells_append]
    exact .inr h2, h3⟩
theorem bldStr (b : Nat) (l : List UInt8) (w : World) (h : Bld w b l) (hb : b ≤ w.heap.size) :
    Calls Tryz.prog 31 #[.pointer (some ⟨b, 0, none⟩)] w fun e w' => e = .returned (.string (B l)) ∧ Below b w w' :=
  (Tryz.Builder_String_any_k b b l w h hb).mono fun _e _w' ⟨h1, _, h3, _⟩ => ⟨h1, h3⟩
theorem bldB (b : Nat) (l : List UInt8) (c : UInt8) (z : Int) (hz : z = (c.toNat : Nat)) (w : World) (h : Bld w b l) (hlen : l.length + 1 ≤ 140737488355328) (hb : b ≤ w.heap.size) :
    Calls Tryz.prog 145 #[.pointer (some ⟨b, 0, none⟩), .int .u8 z] w fun e w' => e = .returned .nilIface ∧ Bld w' b (l ++ [c]) ∧ Below b w w' :=
  (Tryz.Builder_WriteByte_k b b _ z w h (by rw [Lib.byteCells_length]; exact hlen) hb).mono fun e w' ⟨h1, h2, h3, _⟩ => ⟨h1, by
    unfold Bld
    rw [Lib.byteCells_append]
    subst hz
    exact .inr h2, h3⟩
theorem itoa_calls (n : Int) (h0 : -9223372036854775808 ≤ n) (h1 : n ≤ 9223372036854775807) (w : World) (hT : Tabs w) :
    Calls Tryz.prog 212 #[.int .i64 n] w fun e w' => e = .returned (.string (B (Lib.itoa n))) ∧ Below w.heap.size w w' :=
  (Tryz.strconv_Itoa n h0 h1 w hT.pow10).mono fun e w' ⟨h1, k, os, h2⟩ => ⟨h1, by rw [h2]; exact Lib.below_grow _ w (Nat.le_refl _) k os⟩
theorem repeat_calls (c : Nat) (hc : c ≤ 1000000) (w : World) :
    Calls Tryz.prog 139 #[.string ⟨#[48]⟩, .int .i64 c] w fun e w' => e = .returned (.string (B (List.replicate c 48))) ∧ Below w.heap.size w w' :=
  (Tryz.strings_Repeat ⟨#[48]⟩ c w (by omega) (by show 1 * c ≤ _; omega)).mono fun e w' ⟨h1, h2⟩ => ⟨by
    rw [h1]
    have : ∀ k, Lib.repeatL [48] k = List.replicate k (48 : UInt8) := fun k => by
      induction k with
      | zero => rfl
      | succ k ih => rw [Lib.repeatL, ih]; rfl
    exact ret_str (congrArg B (this c)), h2⟩
end Go.Proofs.YtpjlepkdiaohiaaGreatDoor

