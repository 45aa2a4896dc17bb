/- Plain laws for the document's own reckoning with digits: no program in sight. -/
import Derived.Test.YtbopikeoaokdpaaDoorNum
namespace Go.Proofs.YtbopikeoaokdpaaDoor
open Go

/-- all digits. -/
def Dgs (l : List UInt8) : Prop := ∀ c ∈ l, isDg c = true
theorem Dgs.nil : Dgs [] := fun _ h => by cases h
theorem Dgs.cons {c : UInt8} {l : List UInt8} (h : isDg c = true) (hl : Dgs l) : Dgs (c :: l) := fun x hx => by
  rcases List.mem_cons.1 hx with rfl | hx
  · exact h
  · exact hl x hx
theorem Dgs.append {a b : List UInt8} (ha : Dgs a) (hb : Dgs b) : Dgs (a ++ b) := fun x hx => by
  rcases List.mem_append.1 hx with hx | hx
  · exact ha x hx
  · exact hb x hx
theorem Dgs.tail {c : UInt8} {l : List UInt8} (h : Dgs (c :: l)) : Dgs l := fun x hx => h x (List.mem_cons_of_mem _ hx)
theorem Dgs.take {l : List UInt8} (h : Dgs l) (k : Nat) : Dgs (l.take k) := fun x hx => h x (List.mem_of_mem_take hx)
theorem Dgs.drop {l : List UInt8} (h : Dgs l) (k : Nat) : Dgs (l.drop k) := fun x hx => h x (List.mem_of_mem_drop hx)
theorem Dgs.dec (u : Nat) : Dgs (Lib.decDigits u) := dec_isDg u
theorem Dgs.rt {l : List UInt8} (h : isRt l = true) : Dgs l := by
  have := ((isRt_iff _).1 h).1
  rw [this]; exact Dgs.dec _
theorem dgc {d : Nat} (h : d < 10) : isDg (UInt8.ofNat (48 + d)) = true := by
  unfold isDg; rw [byte_toNat (by omega)]; simp; try omega
theorem dgc_val {d : Nat} (h : d < 10) : (UInt8.ofNat (48 + d)).toNat - 48 = d := by rw [byte_toNat (by omega)]; omega
theorem dg_bounds {c : UInt8} (h : isDg c = true) : 48 ≤ c.toNat ∧ c.toNat ≤ 57 := by
  unfold isDg at h; rw [Bool.and_eq_true, decide_eq_true_eq, decide_eq_true_eq] at h; exact h
theorem Dgs.at {l : List UInt8} (h : Dgs l) {k : Nat} (hk : k < l.length) : 48 ≤ (l[k]).toNat ∧ (l[k]).toNat ≤ 57 := dg_bounds (h _ (List.getElem_mem hk))

theorem nv_nil : nv [] = 0 := rfl
theorem nv_cons (c : UInt8) (l : List UInt8) : nv (c :: l) = (c.toNat - 48) * 10 ^ l.length + nv l := by
  have := nv_append [c] l
  rw [List.singleton_append] at this
  rw [this]; simp [nv, nvA_cons, nvA_nil]
theorem nv_bound : ∀ {l : List UInt8}, Dgs l → nv l < 10 ^ l.length
  | [], _ => by simp [nv_nil]
  | c :: l, h => by
    have ih := nv_bound h.tail
    have hc := dg_bounds (h c (by simp))
    rw [nv_cons, List.length_cons, Nat.pow_succ]
    have : (c.toNat - 48) * 10 ^ l.length ≤ 9 * 10 ^ l.length := Nat.mul_le_mul_right _ (by omega)
    omega

/-- without zeros ahead. -/
def trimL : List UInt8 → List UInt8
  | c :: d :: r => if c = 48 then trimL (d :: r) else c :: d :: r
  | l => l
theorem trimL_one (c : UInt8) : trimL [c] = [c] := by unfold trimL; rfl
theorem trimL_zero (d : UInt8) (r : List UInt8) : trimL (48 :: d :: r) = trimL (d :: r) := by rw [trimL, if_pos rfl]
theorem trimL_other {c : UInt8} (h : c ≠ 48) (r : List UInt8) : trimL (c :: r) = c :: r := by
  cases r with
  | nil => exact trimL_one c
  | cons d r => rw [trimL, if_neg h]
theorem trimL_dec : ∀ {l : List UInt8}, l ≠ [] → Dgs l → trimL l = Lib.decDigits (nv l)
  | [], h, _ => absurd rfl h
  | [c], _, hd => by
    rw [trimL_one]
    exact ((dec_nv [c] (by simp) (fun h => by simp at h) hd).1).symm
  | c :: d :: r, _, hd => by
    by_cases hc : c = 48
    · subst hc
      rw [trimL_zero, trimL_dec (by simp) hd.tail]
      have e : nv (48 :: d :: r) = nv (d :: r) := rfl
      rw [e]
    · rw [trimL_other hc]
      exact ((dec_nv (c :: d :: r) (by simp) (fun _ h => hc (by simpa using h)) hd).1).symm

/-- the digit at a place from the end on. -/
def dgt (l : List UInt8) (i : Nat) : Nat := if i < l.length then (l[l.length - 1 - i]?.getD 48).toNat - 48 else 0
theorem dgt_eq {l : List UInt8} (h : Dgs l) (i : Nat) : dgt l i = nv l / 10 ^ i % 10 := by
  unfold dgt
  by_cases hi : i < l.length
  · rw [if_pos hi]
    have hs : l = l.take (l.length - 1 - i) ++ ([l[l.length - 1 - i]] ++ l.drop (l.length - 1 - i + 1)) := by
      rw [List.singleton_append, ← List.drop_eq_getElem_cons (by omega), List.take_append_drop]
    have hb := nv_bound (h.drop (l.length - 1 - i + 1))
    have hl : (l.drop (l.length - 1 - i + 1)).length = i := by rw [List.length_drop]; omega
    rw [hl] at hb
    have hc := h.at (k := l.length - 1 - i) (by omega)
    rw [List.getElem?_eq_getElem (by omega), Option.getD_some]
    have hv := congrArg nv hs
    rw [nv_append, nv_append, List.length_append, hl, List.length_singleton, nv_cons, List.length_nil, nv_nil] at hv
    rw [hv]
    generalize nv (l.take (l.length - 1 - i)) = p
    generalize nv (l.drop (l.length - 1 - i + 1)) = q at hb
    generalize l[l.length - 1 - i].toNat = c at hc
    have e : p * 10 ^ (1 + i) + (((c - 48) * 10 ^ 0 + 0) * 10 ^ i + q) = q + 10 ^ i * (10 * p + (c - 48)) := by
      rw [Nat.pow_add, Nat.pow_one, Nat.pow_zero, Nat.mul_one, Nat.add_zero, Nat.mul_add, ← Nat.mul_assoc p, Nat.mul_comm (10 ^ i) (10 * p), Nat.mul_comm (10 ^ i) (c - 48), Nat.mul_comm p 10]
      omega
    rw [e, Nat.add_mul_div_left _ _ (Nat.pow_pos (by omega)), Nat.div_eq_of_lt hb]
    omega
  · rw [if_neg hi]
    have hb := nv_bound h
    have : nv l < 10 ^ i := Nat.lt_of_lt_of_le hb (Nat.pow_le_pow_right (by omega) (by omega))
    rw [Nat.div_eq_of_lt this]

theorem dgt_lt (l : List UInt8) (h : Dgs l) (i : Nat) : dgt l i ≤ 9 := by rw [dgt_eq h]; omega
theorem div_pow_succ (n i : Nat) : n / 10 ^ (i + 1) = n / 10 ^ i / 10 := by rw [Nat.pow_succ, Nat.div_div_eq_div_mul]
theorem div_pow_step {l : List UInt8} (h : Dgs l) (i : Nat) : nv l / 10 ^ i = 10 * (nv l / 10 ^ (i + 1)) + dgt l i := by
  rw [dgt_eq h, div_pow_succ]; omega
theorem div_pow_big {l : List UInt8} (h : Dgs l) {i : Nat} (hi : l.length ≤ i) : nv l / 10 ^ i = 0 :=
  Nat.div_eq_of_lt (Nat.lt_of_lt_of_le (nv_bound h) (Nat.pow_le_pow_right (by omega) hi))
theorem mod_pow_step {l : List UInt8} (h : Dgs l) (i : Nat) : nv l % 10 ^ (i + 1) = nv l % 10 ^ i + 10 ^ i * dgt l i := by
  rw [dgt_eq h, Nat.pow_succ, Nat.mod_mul]
theorem mod_pow_big {l : List UInt8} (h : Dgs l) {i : Nat} (hi : l.length ≤ i) : nv l % 10 ^ i = nv l :=
  Nat.mod_eq_of_lt (Nat.lt_of_lt_of_le (nv_bound h) (Nat.pow_le_pow_right (by omega) hi))

/-- a step of a sum that is written from its end on. -/
theorem out_step {out : List UInt8} {i _c t n : Nat} (ho : out.length = i) (h : nv out + 10 ^ i * n = t) :
    nv (UInt8.ofNat (48 + n % 10) :: out) + 10 ^ (i + 1) * (n / 10) = t := by
  rw [nv_cons, dgc_val (by omega), ho, ← h, Nat.pow_succ, Nat.mul_assoc, Nat.mul_comm (n % 10), Nat.add_comm (10 ^ i * (n % 10)), Nat.add_assoc, ← Nat.mul_add]
  congr 2
  omega
theorem out_step' {out : List UInt8} {i t n r : Nat} (ho : out.length = i) (h : nv out + 10 ^ i * (n + 10 * r) = t) :
    nv (UInt8.ofNat (48 + n % 10) :: out) + 10 ^ (i + 1) * (n / 10 + r) = t := by
  rw [nv_cons, dgc_val (by omega), ho, ← h, Nat.pow_succ, Nat.mul_assoc, Nat.mul_comm (n % 10), Nat.add_comm (10 ^ i * (n % 10)), Nat.add_assoc, ← Nat.mul_add]
  congr 2
  omega

/-- add's step. -/
theorem radd_step {a b out : List UInt8} (ha : Dgs a) (hb : Dgs b) {i c : Nat} (ho : out.length = i) (h : nv out + 10 ^ i * (c + nv a / 10 ^ i + nv b / 10 ^ i) = nv a + nv b) :
    nv (UInt8.ofNat (48 + (dgt a i + dgt b i + c) % 10) :: out) + 10 ^ (i + 1) * ((dgt a i + dgt b i + c) / 10 + nv a / 10 ^ (i + 1) + nv b / 10 ^ (i + 1)) = nv a + nv b := by
  rw [Nat.add_assoc ((dgt a i + dgt b i + c) / 10)]
  refine out_step' ho ?_
  rw [← h, div_pow_step ha i, div_pow_step hb i]
  congr 2
  omega
theorem radd_done {a b out : List UInt8} (ha : Dgs a) (hb : Dgs b) {i : Nat} (h1 : a.length ≤ i) (h2 : b.length ≤ i) (h : nv out + 10 ^ i * (0 + nv a / 10 ^ i + nv b / 10 ^ i) = nv a + nv b) : nv out = nv a + nv b := by
  rw [div_pow_big ha h1, div_pow_big hb h2] at h
  simpa using h

/-- Sub's step: d is the digit, c what was borrowed. -/
theorem rsub_step {a b out : List UInt8} (ha : Dgs a) (hb : Dgs b) {i c c' d : Nat} (ho : out.length = i) (hd : d < 10) (h : nv out + nv b % 10 ^ i = nv a % 10 ^ i + 10 ^ i * c) (hs : d + dgt b i + c = dgt a i + 10 * c') :
    nv (UInt8.ofNat (48 + d) :: out) + nv b % 10 ^ (i + 1) = nv a % 10 ^ (i + 1) + 10 ^ (i + 1) * c' := by
  rw [nv_cons, dgc_val hd, ho, mod_pow_step ha, mod_pow_step hb, Nat.pow_succ, Nat.mul_assoc]
  have e := congrArg (fun x => 10 ^ i * x) hs
  simp only [Nat.mul_add] at e
  rw [Nat.mul_comm d]
  omega
theorem rsub_done {a b out : List UInt8} (ha : Dgs a) (_hb : Dgs b) {c : Nat} (ho : out.length = a.length) (hod : Dgs out) (hle : nv b ≤ nv a) (h : nv out + nv b % 10 ^ a.length = nv a % 10 ^ a.length + 10 ^ a.length * c) : nv out = nv a - nv b := by
  have h1 := nv_bound ha
  have h2 := nv_bound hod
  rw [Nat.mod_eq_of_lt h1, Nat.mod_eq_of_lt (Nat.lt_of_le_of_lt hle h1)] at h
  rw [ho] at h2
  cases c with
  | zero => rw [Nat.mul_zero] at h; omega
  | succ c => rw [Nat.mul_succ] at h; omega

/-- cells of tens. -/
def tens : List Nat → Nat
  | [] => 0
  | x :: r => x + 10 * tens r
theorem tens_append (a b : List Nat) : tens (a ++ b) = tens a + 10 ^ a.length * tens b := by
  induction a with
  | nil => simp [tens]
  | cons x r ih =>
    rw [List.cons_append, tens, tens, ih, List.length_cons, Nat.pow_succ, Nat.mul_add, ← Nat.mul_assoc, Nat.mul_comm 10 (10 ^ r.length), Nat.add_assoc]
theorem tens_zero (n : Nat) : tens (List.replicate n 0) = 0 := by
  induction n with
  | zero => rfl
  | succ n ih => rw [List.replicate_succ, tens, ih]
theorem tens_split {l : List Nat} {i : Nat} (hi : i < l.length) : tens l = tens (l.take i) + 10 ^ i * (l[i]?.getD 0 + 10 * tens (l.drop (i + 1))) := by
  have h : l = l.take i ++ (l[i]?.getD 0 :: l.drop (i + 1)) := by
    rw [List.getElem?_eq_getElem hi, Option.getD_some, ← List.drop_eq_getElem_cons hi, List.take_append_drop]
  have h2 := congrArg tens h
  rw [tens_append, tens, List.length_take, Nat.min_eq_left (by omega)] at h2
  exact h2
theorem tens_set {l : List Nat} {i : Nat} (hi : i < l.length) (d : Nat) : tens (l.set i (l[i]?.getD 0 + d)) = tens l + 10 ^ i * d := by
  rw [tens_split (l := l.set i (l[i]?.getD 0 + d)) (i := i) (by simpa using hi), tens_split hi, List.take_set_of_le (Nat.le_refl i), List.drop_set_of_lt (by omega), List.getElem?_set_self hi, Option.getD_some]
  simp only [Nat.mul_add]
  omega
theorem tens_drop (l : List Nat) (i : Nat) : tens (l.drop i) = l[i]?.getD 0 + 10 * tens (l.drop (i + 1)) := by
  by_cases h : i < l.length
  · rw [List.drop_eq_getElem_cons h, tens, List.getElem?_eq_getElem h]; rfl
  · rw [List.drop_of_length_le (by omega), List.drop_of_length_le (by omega), List.getElem?_eq_none (by omega)]; rfl

/-- mul's inner step. -/
theorem rmul_step {a b : List UInt8} (hb : Dgs b) {l : List Nat} {i k : Nat} (hik : i + k < l.length) (h : tens l = nv a % 10 ^ i * nv b + 10 ^ i * (dgt a i * (nv b % 10 ^ k))) :
    tens (l.set (i + k) (l[i + k]?.getD 0 + dgt a i * dgt b k)) = nv a % 10 ^ i * nv b + 10 ^ i * (dgt a i * (nv b % 10 ^ (k + 1))) := by
  rw [tens_set hik, h, mod_pow_step hb, Nat.pow_add, Nat.mul_add (dgt a i), Nat.mul_add (10 ^ i), Nat.add_assoc]
  congr 2
  rw [Nat.mul_assoc]
  congr 1
  rw [← Nat.mul_assoc, ← Nat.mul_assoc, Nat.mul_comm (10 ^ k)]
theorem rmul_next {a b : List UInt8} (ha : Dgs a) (hb : Dgs b) {l : List Nat} {i : Nat} (h : tens l = nv a % 10 ^ i * nv b + 10 ^ i * (dgt a i * (nv b % 10 ^ b.length))) :
    tens l = nv a % 10 ^ (i + 1) * nv b + 10 ^ (i + 1) * (dgt a (i + 1) * (nv b % 10 ^ 0)) := by
  rw [h, mod_pow_big hb (Nat.le_refl _), mod_pow_step ha, Nat.pow_zero, Nat.mod_one, Nat.mul_zero, Nat.mul_zero, Nat.add_zero, Nat.add_mul, Nat.mul_assoc]
theorem rcar_step {l : List Nat} {out : List UInt8} {i c t : Nat} (ho : out.length = i) (h : nv out + 10 ^ i * (c + tens (l.drop i)) = t) :
    nv (UInt8.ofNat (48 + (l[i]?.getD 0 + c) % 10) :: out) + 10 ^ (i + 1) * ((l[i]?.getD 0 + c) / 10 + tens (l.drop (i + 1))) = t := by
  refine out_step' ho ?_
  rw [← h, tens_drop l i]
  congr 2
  omega
theorem rcar_done {a b out : List UInt8} {l : List Nat} (ha : Dgs a) (hb : Dgs b) {c : Nat} (hl : l.length = a.length + b.length) (_ho : out.length = l.length) (h : nv out + 10 ^ l.length * (c + tens (l.drop l.length)) = nv a * nv b) : nv out = nv a * nv b := by
  have h1 := nv_bound ha
  have h2 := nv_bound hb
  have h3 : nv a * nv b < 10 ^ l.length := by
    rw [hl, Nat.pow_add]
    exact Nat.mul_lt_mul_of_lt_of_le h1 (Nat.le_of_lt h2) (Nat.pow_pos (by omega))
  rw [List.drop_of_length_le (Nat.le_refl _), tens, Nat.add_zero] at h
  cases c with
  | zero => rw [Nat.mul_zero] at h; omega
  | succ c => rw [Nat.mul_succ] at h; omega

/-- Div's step. -/
theorem rdiv_step {out p : List UInt8} {c : UInt8} {r by' : Nat} (hb : 0 < by') (hr : r < by') (hc : isDg c = true) (h : nv out * by' + r = nv p) :
    (10 * r + (c.toNat - 48)) / by' < 10 ∧ nv (out ++ [UInt8.ofNat (48 + (10 * r + (c.toNat - 48)) / by')]) * by' + (10 * r + (c.toNat - 48)) % by' = nv (p ++ [c]) ∧ (10 * r + (c.toNat - 48)) % by' < by' := by
  have hcb := dg_bounds hc
  have h1 : (10 * r + (c.toNat - 48)) / by' < 10 := by
    rw [Nat.div_lt_iff_lt_mul hb]; omega
  refine ⟨h1, ?_, Nat.mod_lt _ hb⟩
  rw [nv_snoc, nv_snoc, dgc_val h1, ← h]
  have := Nat.div_add_mod (10 * r + (c.toNat - 48)) by'
  rw [Nat.mul_comm by'] at this
  rw [Nat.add_mul, Nat.add_assoc, this, Nat.add_mul, Nat.mul_right_comm]
  omega
theorem rdiv_done {out p : List UInt8} {r by' : Nat} (hb : 0 < by') (hr : r < by') (h : nv out * by' + r = nv p) : nv out = nv p / by' ∧ r = nv p % by' := by
  rw [← h, Nat.add_comm, Nat.add_mul_div_right _ _ hb, Nat.div_eq_of_lt hr, Nat.add_mul_mod_self_right, Nat.mod_eq_of_lt hr]
  exact ⟨(Nat.zero_add _).symm, rfl⟩

/-- texts of one length, the same up to a place. -/
theorem nv_less {a b : List UInt8} (ha : Dgs a) (hb : Dgs b) (hl : a.length = b.length) {i : Nat} (hi : i < a.length) (ht : a.take i = b.take i) (h : (a[i]).toNat < (b[i]'(by omega)).toNat) : nv a < nv b := by
  have sa : a = a.take i ++ ([a[i]] ++ a.drop (i + 1)) := by rw [List.singleton_append, ← List.drop_eq_getElem_cons hi, List.take_append_drop]
  have sb : b = b.take i ++ ([b[i]'(by omega)] ++ b.drop (i + 1)) := by rw [List.singleton_append, ← List.drop_eq_getElem_cons (by omega), List.take_append_drop]
  have ba := nv_bound (ha.drop (i + 1))
  have ca := ha.at hi
  have cb := hb.at (k := i) (by omega)
  rw [congrArg nv sa, congrArg nv sb]
  rw [nv_append, nv_append, nv_append, nv_append, ht]
  simp only [List.length_append, List.length_drop, List.length_singleton] at ba ⊢
  rw [hl] at ba ⊢
  generalize nv (List.take i b) = p
  generalize nv (List.drop (i + 1) a) = q at *
  generalize nv (List.drop (i + 1) b) = s
  rw [nv_cons, nv_cons, List.length_nil, Nat.pow_zero, Nat.mul_one, Nat.mul_one, nv_nil]
  simp only [Nat.add_zero]
  generalize a[i].toNat = x at *
  generalize (b[i]'(by omega)).toNat = y at *
  have : (x - 48 + 1) * 10 ^ (b.length - (i + 1)) ≤ (y - 48) * 10 ^ (b.length - (i + 1)) := Nat.mul_le_mul_right _ (by omega)
  rw [Nat.add_mul, Nat.one_mul] at this
  omega
/-- the shorter one is less. -/
theorem nv_shorter {a b : List UInt8} (ha : isRt a = true) (hb : isRt b = true) (hl : a.length < b.length) : nv a < nv b := by
  have h1 := nv_bound (Dgs.rt ha)
  have hb' := (isRt_iff _).1 hb
  have hge : 10 ^ (b.length - 1) ≤ nv b := by
    have key : ∀ k n, n < 10 ^ k → (Lib.decDigits n).length ≤ max k 1 := by
      intro k
      induction k with
      | zero => intro n h; rw [show n = 0 by simpa using h, dec_small (by omega)]; simp
      | succ k ih =>
        intro n h
        by_cases h10 : n < 10
        · rw [dec_small h10]; simp; try omega
        · have := ih (n / 10) (by rw [Nat.pow_succ] at h; omega)
          rw [dec_big h10, List.length_append, List.length_singleton]
          cases k with
          | zero => simp at h; omega
          | succ k => omega
    by_cases hge : 10 ^ (b.length - 1) ≤ nv b
    · exact hge
    · have := key (b.length - 1) (nv b) (by omega)
      rw [← hb'.1] at this
      have ha0 : 1 ≤ a.length := by
        have := dec_ne_nil (nv a)
        rw [← ((isRt_iff _).1 ha).1] at this
        exact List.length_pos_iff.2 this
      omega
  exact Nat.lt_of_lt_of_le h1 (Nat.le_trans (Nat.pow_le_pow_right (by omega) (by omega)) hge)
theorem rdig_le : ∀ {k u : Nat}, u < 10 ^ k → Lib.nDigits u ≤ k + 1
  | 0, u, h => by
    have : u = 0 := by simpa using h
    subst this
    rw [Lib.nDigits_small (by omega)]; omega
  | k + 1, u, h => by
    by_cases h10 : u < 10
    · rw [Lib.nDigits_small h10]; omega
    · rw [Lib.nDigits_big h10]
      have := rdig_le (k := k) (u := u / 10) (by rw [Nat.pow_succ] at h; omega)
      omega
theorem rdg_lt (n : Nat) : n < 10 ^ Lib.nDigits n := by
  have h := nv_bound (Dgs.dec n)
  rwa [nv_dec, Lib.decDigits_length] at h
theorem rdig_lt : ∀ (k n : Nat), n < 10 ^ (k + 1) → Lib.nDigits n ≤ k + 1
  | 0, n, h => by rw [← Lib.decDigits_length, dec_small (by simpa using h)]; simp
  | k + 1, n, h => by
    by_cases h2 : n < 10
    · rw [← Lib.decDigits_length, dec_small h2]; simp
    · have := rdig_lt k (n / 10) (by rw [Nat.pow_succ] at h; exact Nat.div_lt_of_lt_mul (by rw [Nat.mul_comm]; exact h))
      rw [← Lib.decDigits_length] at this ⊢
      rw [dec_big h2, List.length_append]
      simpa using this
theorem rdig_one (n : Nat) : 1 ≤ Lib.nDigits n := by
  rw [← Lib.decDigits_length]
  exact List.length_pos_iff.2 (dec_ne_nil n)
theorem rdig_up {m n : Nat} (h : m ≤ n) : Lib.nDigits m ≤ Lib.nDigits n := by
  have h1 := rdig_one n
  have h2 := rdg_lt n
  obtain ⟨k, hk⟩ : ∃ k, Lib.nDigits n = k + 1 := ⟨Lib.nDigits n - 1, by omega⟩
  rw [hk] at h2 ⊢
  exact rdig_lt k m (Nat.lt_of_le_of_lt h h2)
theorem rpow_up {b m n : Nat} (hmn : m ≤ n) (h : ¬ Lib.nDigits (b ^ m) ≤ 400) : ¬ Lib.nDigits (b ^ n) ≤ 400 := by
  by_cases hb : b = 0
  · exfalso
    apply h
    have h1 : b ^ m ≤ 1 := by
      subst hb
      cases m with
      | zero => simp
      | succ m => rw [Nat.pow_succ]; simp
    have := rdig_up h1
    have h2 : Lib.nDigits 1 ≤ 1 := rdig_lt 0 1 (by decide)
    omega
  · have := rdig_up (Nat.pow_le_pow_right (n := b) (by omega) hmn)
    omega
theorem rmul_digits {m n j k : Nat} (hm : Lib.nDigits m ≤ j) (hn : Lib.nDigits n ≤ k) : Lib.nDigits (m * n) ≤ j + k + 1 := by
  refine rdig_le ?_
  rw [Nat.pow_add]
  exact Nat.mul_lt_mul_of_lt_of_le (Nat.lt_of_lt_of_le (rdg_lt m) (Nat.pow_le_pow_right (by omega) hm)) (Nat.le_of_lt (Nat.lt_of_lt_of_le (rdg_lt n) (Nat.pow_le_pow_right (by omega) hn))) (Nat.pow_pos (by omega))
theorem rt_len {l : List UInt8} (h : isRt l = true) : 1 ≤ l.length ∧ l.length ≤ 400 := by
  have g := (isRt_iff _).1 h
  have := dec_ne_nil (nv l)
  rw [← g.1] at this
  exact ⟨List.length_pos_iff.2 this, g.2⟩
end Go.Proofs.YtbopikeoaokdpaaDoor
