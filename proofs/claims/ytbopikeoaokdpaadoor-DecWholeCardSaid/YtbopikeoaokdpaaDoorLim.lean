/- Plain arithmetic, with no program in sight: naturals as groups of nine digits (limbs), the least one first. -/
import Derived.Test.YtbopikeoaokdpaaDoorNum
namespace Go.Proofs.YtbopikeoaokdpaaDoor
open Go

/-- a natural's limbs. -/
def lim (n : Nat) : List Nat := if h : n = 0 then [] else n % 1000000000 :: lim (n / 1000000000)
  termination_by n
  decreasing_by omega

theorem lim_zero : lim 0 = [] := by rw [lim]; simp
theorem lim_pos {n : Nat} (h : n ≠ 0) : lim n = n % 1000000000 :: lim (n / 1000000000) := by rw [lim, dif_neg h]

/-- the number of limbs. -/
def val : List Nat → Nat
  | [] => 0
  | x :: r => x + 1000000000 * val r

/-- all below the base. -/
def Grp (l : List Nat) : Prop := ∀ j : Nat, l[j]?.getD 0 < 1000000000

theorem Grp.tail {x : Nat} {r : List Nat} (h : Grp (x :: r)) : Grp r := fun j => by have := h (j + 1); simpa using this
theorem Grp.head {x : Nat} {r : List Nat} (h : Grp (x :: r)) : x < 1000000000 := by have := h 0; simpa using this
theorem Grp.nil : Grp [] := fun j => by simp
theorem Grp.cons {x : Nat} {r : List Nat} (h : x < 1000000000) (hr : Grp r) : Grp (x :: r) := fun j => by
  cases j with
  | zero => simpa using h
  | succ j => simpa using hr j
theorem Grp.append {a b : List Nat} (ha : Grp a) (hb : Grp b) : Grp (a ++ b) := fun j => by
  by_cases h : j < a.length
  · rw [List.getElem?_append_left h]; exact ha j
  · rw [List.getElem?_append_right (by omega)]; exact hb _
theorem Grp.take {a : List Nat} (h : Grp a) (k : Nat) : Grp (a.take k) := fun j => by
  rw [List.getElem?_take]; split
  · exact h j
  · simp
theorem Grp.drop {a : List Nat} (h : Grp a) (k : Nat) : Grp (a.drop k) := fun j => by
  rw [List.getElem?_drop]; exact h _
theorem Grp.set {a : List Nat} (h : Grp a) (k x : Nat) (hx : x < 1000000000) : Grp (a.set k x) := fun j => by
  rw [List.getElem?_set]
  split
  · split
    · simpa using hx
    · simp
  · exact h j
theorem Grp.replicate (n : Nat) : Grp (List.replicate n 0) := fun j => by
  rw [List.getElem?_replicate]; split <;> simp

theorem lim_grp (n : Nat) : Grp (lim n) := by
  induction n using Nat.strongRecOn with
  | _ n ih =>
    by_cases h : n = 0
    · subst h; rw [lim_zero]; exact Grp.nil
    · rw [lim_pos h]; exact Grp.cons (by omega) (ih _ (by omega))

theorem val_lim (n : Nat) : val (lim n) = n := by
  induction n using Nat.strongRecOn with
  | _ n ih =>
    by_cases h : n = 0
    · subst h; rw [lim_zero]; rfl
    · rw [lim_pos h, val, ih _ (by omega)]; omega

theorem lim_eq_nil {n : Nat} : lim n = [] ↔ n = 0 := by
  constructor
  · intro h
    by_cases e : n = 0
    · exact e
    · rw [lim_pos e] at h; simp at h
  · rintro rfl; exact lim_zero

theorem val_append (a b : List Nat) : val (a ++ b) = val a + 1000000000 ^ a.length * val b := by
  induction a with
  | nil => simp [val]
  | cons x r ih =>
    simp only [List.cons_append, val, List.length_cons, ih, Nat.pow_succ]
    rw [Nat.mul_add, Nat.add_assoc, ← Nat.mul_assoc, Nat.mul_comm 1000000000 (1000000000 ^ r.length)]

theorem val_snoc (a : List Nat) (x : Nat) : val (a ++ [x]) = val a + 1000000000 ^ a.length * x := by
  rw [val_append]; simp [val]

theorem val_lt {l : List Nat} (h : Grp l) : val l < 1000000000 ^ l.length := by
  induction l with
  | nil => simp [val]
  | cons x r ih =>
    have h1 := ih h.tail
    have h2 := h.head
    simp only [val, List.length_cons, Nat.pow_succ]
    omega

theorem val_replicate (n : Nat) : val (List.replicate n 0) = 0 := by
  induction n with
  | zero => rfl
  | succ n ih => rw [List.replicate_succ, val, ih]

/-- limbs of which the last one is not 0 are their number's. -/
theorem lim_val {l : List Nat} (h : Grp l) (hl : ∀ k, l.length = k + 1 → l[k]?.getD 0 ≠ 0) : lim (val l) = l := by
  induction l with
  | nil => exact lim_zero
  | cons x r ih =>
    have hx := h.head
    have hr : lim (val r) = r := ih h.tail fun k hk => by have := hl (k + 1) (by simp [hk]); simpa using this
    have hne : x + 1000000000 * val r ≠ 0 := by
      cases r with
      | nil => have := hl 0 rfl; simp at this; omega
      | cons y s =>
        intro e
        have : val (y :: s) = 0 := by omega
        rw [this, lim_zero] at hr
        cases hr
    rw [val, lim_pos hne, show (x + 1000000000 * val r) % 1000000000 = x from by omega, show (x + 1000000000 * val r) / 1000000000 = val r from by omega, hr]

theorem lim_last {n k : Nat} (h : (lim n).length = k + 1) : (lim n)[k]?.getD 0 ≠ 0 := by
  induction n using Nat.strongRecOn generalizing k with
  | _ n ih =>
    by_cases e : n = 0
    · subst e; rw [lim_zero] at h; simp at h
    · rw [lim_pos e] at h ⊢
      cases k with
      | zero =>
        have : lim (n / 1000000000) = [] := by simpa using h
        have := lim_eq_nil.1 this
        simp; omega
      | succ k =>
        have := ih (n / 1000000000) (by omega) (k := k) (by simpa using h)
        simpa using this

/-- .. or whose number is as great as its limbs are many. -/
theorem lim_val' {l : List Nat} (h : Grp l) (hl : l = [] ∨ 1000000000 ^ (l.length - 1) ≤ val l) : lim (val l) = l := by
  refine lim_val h fun k hk e => ?_
  rcases hl with rfl | hl
  · simp at hk
  · rw [hk, Nat.add_sub_cancel] at hl
    have e1 : l = l.take k ++ [l[k]?.getD 0] := by
      rw [List.getElem?_eq_getElem (by omega), Option.getD_some, ← List.take_succ_eq_append_getElem, List.take_of_length_le (by omega)]
    have h1 : val l = val (l.take k) := by
      have := congrArg val e1
      rw [val_snoc, e] at this
      simpa using this
    have := val_lt (h.take k)
    rw [List.length_take, Nat.min_eq_left (by omega)] at this
    omega

theorem lim_len {n k : Nat} : (lim n).length ≤ k ↔ n < 1000000000 ^ k := by
  induction n using Nat.strongRecOn generalizing k with
  | _ n ih =>
    by_cases e : n = 0
    · subst e; rw [lim_zero]; simp [Nat.pow_pos]
    · rw [lim_pos e, List.length_cons]
      cases k with
      | zero => simp; omega
      | succ k =>
        have := ih (n / 1000000000) (by omega) (k := k)
        rw [Nat.pow_succ]
        rw [Nat.div_lt_iff_lt_mul (by omega)] at this
        omega

/-- how many of the first n limbs are left without zeros at their end. -/
def trimN (l : List Nat) : Nat → Nat
  | 0 => 0
  | n + 1 => if l[n]?.getD 0 = 0 then trimN l n else n + 1

theorem trimN_le (l : List Nat) : ∀ n, trimN l n ≤ n
  | 0 => Nat.le_refl _
  | n + 1 => by
    unfold trimN
    split
    · have := trimN_le l n; omega
    · omega

theorem take_succ_getD (l : List Nat) (n : Nat) (h : n < l.length) : l.take (n + 1) = l.take n ++ [l[n]?.getD 0] := by
  rw [List.getElem?_eq_getElem h, Option.getD_some, ← List.take_succ_eq_append_getElem]

theorem trimN_take {l : List Nat} (h : Grp l) : ∀ n, n ≤ l.length → l.take (trimN l n) = lim (val (l.take n))
  | 0, _ => by simp [trimN, val, lim_zero]
  | n + 1, hn => by
    unfold trimN
    split
    · rename_i e
      rw [trimN_take h n (by omega), take_succ_getD l n (by omega), e, val_snoc]; simp
    · rename_i e
      refine (lim_val (h.take _) fun k hk => ?_).symm
      rw [List.length_take] at hk
      have : k = n := by omega
      subst this
      rw [List.getElem?_take_of_lt (by omega)]; exact e

/-- .. of all of them. -/
theorem trimN_all {l : List Nat} (h : Grp l) : l.take (trimN l l.length) = lim (val l) := by
  rw [trimN_take h l.length (Nat.le_refl _), List.take_length]

/-! ### a limb's digits behind those of a number -/

/-- k digits. -/
def pad : Nat → Nat → List UInt8
  | 0, _ => []
  | k + 1, x => pad k (x / 10) ++ [UInt8.ofNat (48 + x % 10)]

theorem pad_eq : ∀ k x : Nat, x < 10 ^ k → 1 ≤ k → pad k x = List.replicate (k - (Lib.decDigits x).length) 48 ++ Lib.decDigits x
  | 0, _, _, h => by omega
  | 1, x, hx, _ => by
    rw [dec_small (by omega)]
    have : x % 10 = x := by omega
    simp [pad, this]
  | k + 2, x, hx, _ => by
    have ih := pad_eq (k + 1) (x / 10) (by rw [Nat.pow_succ] at hx; omega) (by omega)
    rw [pad, ih]
    by_cases h : x < 10
    · rw [show x / 10 = 0 from by omega, dec_small (show 0 < 10 by omega), dec_small h, show x % 10 = x from by omega]
      simp only [List.length_cons, List.length_nil]
      rw [show k + 2 - (0 + 1) = (k + 1 - (0 + 1)) + 1 from by omega, List.replicate_succ']
      rfl
    · rw [dec_big h]
      simp only [List.length_append, List.length_cons, List.length_nil]
      rw [show k + 2 - ((Lib.decDigits (x / 10)).length + (0 + 1)) = k + 1 - (Lib.decDigits (x / 10)).length from by omega, List.append_assoc]

theorem dec_pad : ∀ k n x : Nat, n ≠ 0 → x < 10 ^ k → Lib.decDigits (x + 10 ^ k * n) = Lib.decDigits n ++ pad k x
  | 0, n, x, _, hx => by
    have : x = 0 := by simpa using hx
    subst this; simp [pad]
  | k + 1, n, x, hn, hx => by
    have hp : 10 ^ (k + 1) = 10 * 10 ^ k := by rw [Nat.pow_succ, Nat.mul_comm]
    rw [hp] at hx ⊢
    have ih := dec_pad k n (x / 10) hn (by omega)
    have e : 10 * 10 ^ k * n = 10 * (10 ^ k * n) := by rw [Nat.mul_assoc]
    rw [e]
    have hpos : 0 < 10 ^ k * n := Nat.mul_pos (Nat.pow_pos (by omega)) (by omega)
    rw [dec_big (by omega), show (x + 10 * (10 ^ k * n)) / 10 = x / 10 + 10 ^ k * n from by omega, ih, show (x + 10 * (10 ^ k * n)) % 10 = x % 10 from by omega, pad, List.append_assoc]

theorem dec_limb {n x : Nat} (hn : n ≠ 0) (hx : x < 1000000000) : Lib.decDigits (x + 1000000000 * n) = Lib.decDigits n ++ (List.replicate (9 - (Lib.decDigits x).length) 48 ++ Lib.decDigits x) := by
  rw [← pad_eq 9 x hx (by omega)]
  exact dec_pad 9 n x hn hx

theorem nDigits_le_of_lt : ∀ {k u : Nat}, u < 10 ^ k → Lib.nDigits u ≤ k + 1
  | 0, u, h => by
    have : u = 0 := by simpa using h
    subst this
    rw [Lib.nDigits_small (by omega)]; omega
  | k + 1, u, h => by
    by_cases h10 : u < 10
    · rw [Lib.nDigits_small h10]; omega
    · rw [Lib.nDigits_big h10]
      have := nDigits_le_of_lt (k := k) (u := u / 10) (by rw [Nat.pow_succ] at h; omega)
      omega

theorem nDigits_unique_le {u : Nat} (h : u < 1000000000) : Lib.nDigits u ≤ 9 := by
  have key : ∀ k u : Nat, u < 10 ^ (k + 1) → Lib.nDigits u ≤ k + 1 := by
    intro k
    induction k with
    | zero => intro u h; rw [Lib.nDigits_small (by simpa using h)]; omega
    | succ k ih =>
      intro u h
      by_cases h10 : u < 10
      · rw [Lib.nDigits_small h10]; omega
      · rw [Lib.nDigits_big h10]
        have := ih (u / 10) (by rw [Nat.pow_succ] at h; omega)
        omega
  exact key 8 u h

/-! ### groups of nine digits -/

/-- a text's groups of nine bytes, from its end on. -/
def chunks (s : List UInt8) : List (List UInt8) := if h : s = [] then [] else s.drop (s.length - 9) :: chunks (s.take (s.length - 9))
  termination_by s.length
  decreasing_by have := List.length_pos_iff.2 h; simp; omega

theorem chunks_nil : chunks [] = [] := by rw [chunks]; simp
theorem chunks_cons {s : List UInt8} (h : s ≠ []) : chunks s = s.drop (s.length - 9) :: chunks (s.take (s.length - 9)) := by rw [chunks, dif_neg h]

theorem nv_lt {s : List UInt8} (h : ∀ c ∈ s, isDg c = true) : nv s < 10 ^ s.length := by
  induction s with
  | nil => simp [nv, nvA_nil]
  | cons c r ih =>
    have h1 := ih fun x hx => h x (by simp [hx])
    have h2 := h c (by simp)
    simp only [isDg, Bool.and_eq_true, decide_eq_true_eq] at h2
    have : nv (c :: r) = (c.toNat - 48) * 10 ^ r.length + nv r := by
      have := nv_append [c] r
      simpa [nv, nvA_cons, nvA_nil] using this
    rw [this, List.length_cons, Nat.pow_succ]
    have h3 : (c.toNat - 48) * 10 ^ r.length ≤ 9 * 10 ^ r.length := Nat.mul_le_mul_right _ (by omega)
    omega

theorem chunk_length {s g : List UInt8} (h : g ∈ chunks s) : 1 ≤ g.length ∧ g.length ≤ 9 := by
  have key : ∀ n, ∀ s : List UInt8, s.length = n → g ∈ chunks s → 1 ≤ g.length ∧ g.length ≤ 9 := by
    intro n
    induction n using Nat.strongRecOn with
    | _ n ih =>
      intro s hs hg
      by_cases e : s = []
      · subst e; rw [chunks_nil] at hg; cases hg
      · rw [chunks_cons e] at hg
        have := List.length_pos_iff.2 e
        rcases List.mem_cons.1 hg with rfl | hg
        · simp; omega
        · exact ih (s.length - 9) (by omega) _ (by simp) hg
  exact key _ s rfl h

theorem chunk_mem {s g : List UInt8} (h : g ∈ chunks s) : ∀ c ∈ g, c ∈ s := by
  have key : ∀ n, ∀ s : List UInt8, s.length = n → g ∈ chunks s → ∀ c ∈ g, c ∈ s := by
    intro n
    induction n using Nat.strongRecOn with
    | _ n ih =>
      intro s hs hg c hc
      by_cases e : s = []
      · subst e; rw [chunks_nil] at hg; cases hg
      · rw [chunks_cons e] at hg
        have := List.length_pos_iff.2 e
        rcases List.mem_cons.1 hg with rfl | hg
        · exact List.mem_of_mem_drop hc
        · exact List.mem_of_mem_take (ih (s.length - 9) (by omega) _ (by simp) hg c hc)
  exact key _ s rfl h

theorem val_chunks (s : List UInt8) : val ((chunks s).map nv) = nv s := by
  have key : ∀ n, ∀ s : List UInt8, s.length = n → val ((chunks s).map nv) = nv s := by
    intro n
    induction n using Nat.strongRecOn with
    | _ n ih =>
      intro s hs
      by_cases e : s = []
      · subst e; rw [chunks_nil]; simp [val, nv, nvA_nil]
      · have := List.length_pos_iff.2 e
        rw [chunks_cons e, List.map_cons, val, ih (s.length - 9) (by omega) _ (by simp)]
        have h := nv_append (s.take (s.length - 9)) (s.drop (s.length - 9))
        rw [List.take_append_drop] at h
        rw [h, List.length_drop]
        by_cases h9 : 9 ≤ s.length
        · rw [show s.length - (s.length - 9) = 9 from by omega]; omega
        · rw [show s.length - 9 = 0 from by omega]; simp [nv, nvA_nil]
  exact key _ s rfl

theorem grp_chunks {s : List UInt8} (h : ∀ c ∈ s, isDg c = true) : Grp ((chunks s).map nv) := fun j => by
  rw [List.getElem?_map]
  cases e : (chunks s)[j]? with
  | none => simp
  | some g =>
    have hg := List.mem_of_getElem? e
    have h1 := nv_lt fun c hc => h c (chunk_mem hg c hc)
    have h2 := chunk_length hg
    have h3 : 10 ^ g.length ≤ 10 ^ 9 := Nat.pow_le_pow_right (by omega) h2.2
    simp only [Option.map_some, Option.getD_some]
    omega

theorem chunks_len (s : List UInt8) : (chunks s).length ≤ s.length := by
  have key : ∀ n, ∀ s : List UInt8, s.length = n → (chunks s).length ≤ s.length := by
    intro n
    induction n using Nat.strongRecOn with
    | _ n ih =>
      intro s hs
      by_cases e : s = []
      · subst e; rw [chunks_nil]; simp
      · have := List.length_pos_iff.2 e
        have h := ih (s.length - 9) (by omega) (s.take (s.length - 9)) (by simp)
        rw [List.length_take] at h
        rw [chunks_cons e, List.length_cons]; omega
  exact key _ s rfl
end Go.Proofs.YtbopikeoaokdpaaDoor
