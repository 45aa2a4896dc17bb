/- PA: Num Lim Com Range Mem Std RefP RefA RefB NatV Bld. -/
import Derived.Lib.ItoaNum
import Derived.Lib.ParseIntB
import Derived.Test.YtpjlepkdiaohiaaGreatDoorProg
import Derived.Test.YtpjlepkdiaohiaaGreatDoorShelf
import Derived.WalkKit
import Derived.WalkSpells
import Derived.WalkLawsBesides
import Derived.Outline
import Derived.Deep.DeepFit
import Derived.Deep.DeepMust
import Derived.Deep.QuietTactic
import Derived.Deep.RegionHeld3
import Derived.BigQuiet
import Derived.BigRegion
import Derived.RangeFuncNested
import Derived.RangeFuncBound
import Derived.RangeFuncCalls
import Derived.RangeFuncLeaves
import Derived.CallsIn
import Derived.RangeFuncBox
import Derived.Lib.FrozenHead
import Derived.Lib.OthersKept
import Derived.Lib.AppendIntMem
/- Plain arithmetic, with no program in sight: naturals as decimal digits and as groups of nine digits (limbs). -/
namespace Go.Proofs.YtpjlepkdiaohiaaGreatDoor
open Go

/-! ### digits -/

theorem dec_small {u : Nat} (h : u < 10) : Lib.decDigits u = [UInt8.ofNat (48 + u)] := by rw [Lib.decDigits, dif_pos h]
theorem dec_big {u : Nat} (h : ¬ u < 10) : Lib.decDigits u = Lib.decDigits (u / 10) ++ [UInt8.ofNat (48 + u % 10)] := by rw [Lib.decDigits, dif_neg h]

theorem byte_toNat {n : Nat} (h : n < 256) : (UInt8.ofNat n).toNat = n := by
  rw [UInt8.toNat_ofNat']; exact Nat.mod_eq_of_lt h

/-- is a byte a digit? -/
def isDg (c : UInt8) : Bool := decide (48 ≤ c.toNat) && decide (c.toNat ≤ 57)

/-- the number that digits spell, behind a number. -/
def nvA (a : Nat) (s : List UInt8) : Nat := s.foldl (fun a c => a * 10 + (c.toNat - 48)) a
theorem nvA_nil (a : Nat) : nvA a [] = a := by unfold nvA; exact List.foldl_nil
theorem nvA_cons (a : Nat) (c : UInt8) (r : List UInt8) : nvA a (c :: r) = nvA (a * 10 + (c.toNat - 48)) r := by unfold nvA; exact List.foldl_cons ..
def nv (s : List UInt8) : Nat := nvA 0 s

theorem nvA_append (a : Nat) (s t : List UInt8) : nvA a (s ++ t) = nvA (nvA a s) t := by
  unfold nvA; rw [List.foldl_append]

theorem nvA_eq (a : Nat) (s : List UInt8) : nvA a s = a * 10 ^ s.length + nv s := by
  unfold nv
  induction s generalizing a with
  | nil => simp [nvA_nil]
  | cons c r ih =>
    simp only [nvA_cons, List.length_cons]
    rw [ih (a * 10 + (c.toNat - 48)), ih (0 * 10 + (c.toNat - 48)), Nat.pow_succ]
    generalize 10 ^ r.length = q
    generalize nvA 0 r = x
    generalize c.toNat - 48 = d
    have h1 : (a * 10 + d) * q = a * (q * 10) + d * q := by rw [Nat.add_mul, Nat.mul_assoc, Nat.mul_comm 10 q]
    have h2 : (0 * 10 + d) * q = d * q := by rw [Nat.zero_mul, Nat.zero_add]
    omega

theorem nv_append (s t : List UInt8) : nv (s ++ t) = nv s * 10 ^ t.length + nv t := by
  unfold nv; rw [nvA_append, nvA_eq]; rfl

theorem nv_snoc (s : List UInt8) (c : UInt8) : nv (s ++ [c]) = nv s * 10 + (c.toNat - 48) := by
  rw [nv_append]; simp [nv, nvA_nil, nvA_cons]

theorem nv_dec (u : Nat) : nv (Lib.decDigits u) = u := by
  induction u using Nat.strongRecOn with
  | _ u ih =>
    by_cases h : u < 10
    · rw [dec_small h]; simp only [nv, nvA_cons, nvA_nil]; rw [byte_toNat (by omega)]; omega
    · rw [dec_big h, nv_snoc, ih (u / 10) (by omega), byte_toNat (by omega)]; omega

theorem dec_ne_nil (u : Nat) : Lib.decDigits u ≠ [] := by
  by_cases h : u < 10
  · rw [dec_small h]; simp
  · rw [dec_big h]; simp

theorem dec_isDg (u : Nat) : ∀ c ∈ Lib.decDigits u, isDg c = true := by
  induction u using Nat.strongRecOn with
  | _ u ih =>
    intro c hc
    by_cases h : u < 10
    · rw [dec_small h] at hc; obtain rfl := List.mem_singleton.1 hc
      unfold isDg; rw [byte_toNat (by omega)]; simp; omega
    · rw [dec_big h] at hc
      rcases List.mem_append.1 hc with hc | hc
      · exact ih (u / 10) (by omega) c hc
      · obtain rfl := List.mem_singleton.1 hc
        unfold isDg; rw [byte_toNat (by omega)]; simp; omega

theorem head_app {r s : List UInt8} (h : r ≠ []) : (r ++ s).head? = r.head? := by
  cases r with
  | nil => exact absurd rfl h
  | cons c r => rfl

/-- no zero ahead, unless it is 0 itself. -/
theorem dec_head {u : Nat} (h : 10 ≤ u) : (Lib.decDigits u).head? ≠ some 48 := by
  induction u using Nat.strongRecOn with
  | _ u ih =>
    rw [dec_big (by omega)]
    by_cases h2 : u / 10 < 10
    · rw [dec_small h2]
      simp
      intro hh
      have := congrArg UInt8.toNat hh
      rw [byte_toNat (by omega)] at this
      simp at this
      omega
    · have := ih (u / 10) (by omega) (by omega)
      intro hh
      apply this
      have hne := dec_ne_nil (u / 10)
      rw [head_app hne] at hh
      exact hh

/-- what a natural's text is like. -/
def isRt (s : List UInt8) : Bool := decide (1 ≤ s.length) && decide (s.length ≤ 400) && !(decide (1 < s.length) && s.head? == some 48) && s.all isDg

/-- digits without a zero ahead are a number's. -/
theorem dec_nv (s : List UInt8) (h1 : s ≠ []) (hz : 1 < s.length → s.head? ≠ some 48) (hd : ∀ c ∈ s, isDg c = true) : Lib.decDigits (nv s) = s ∧ (1 < s.length → 10 ≤ nv s) := by
  have key : ∀ n, ∀ s : List UInt8, s.length = n → s ≠ [] → (1 < s.length → s.head? ≠ some 48) → (∀ c ∈ s, isDg c = true) → Lib.decDigits (nv s) = s ∧ (1 < s.length → 10 ≤ nv s) := by
    intro n
    induction n with
    | zero => intro s hs h1; exact absurd (List.eq_nil_of_length_eq_zero hs) h1
    | succ n ih =>
      intro s hs h1 hz hd
      obtain ⟨r, c, rfl⟩ : ∃ r c, s = r ++ [c] := ⟨s.dropLast, s.getLast h1, (List.dropLast_concat_getLast h1).symm⟩
      have hc := hd c (by simp)
      simp only [isDg, Bool.and_eq_true, decide_eq_true_eq] at hc
      have hcc : UInt8.ofNat (48 + (c.toNat - 48)) = c := by
        rw [show 48 + (c.toNat - 48) = c.toNat from by omega]; simp
      rw [nv_snoc]
      by_cases hr : r = []
      · subst hr
        simp only [nv, nvA_nil, List.nil_append, List.length_cons, List.length_nil]
        rw [dec_small (by omega)]
        rw [show 48 + (0 * 10 + (c.toNat - 48)) = 48 + (c.toNat - 48) from by omega, hcc]
        exact ⟨rfl, by omega⟩
      · have hl : r.length = n := by simpa using hs
        have hz' : r.head? ≠ some 48 := by
          have := hz (by have := List.length_pos_iff.2 hr; simp; omega)
          rwa [head_app hr] at this
        obtain ⟨e1, e2⟩ := ih r hl hr (fun _ => hz') (fun x hx => hd x (by simp [hx]))
        have hpos : 1 ≤ nv r := by
          by_cases h1r : 1 < r.length
          · have := e2 h1r; omega
          · -- one digit, not 0
            obtain ⟨x, rfl⟩ : ∃ x, r = [x] := by
              match r, hr, h1r with
              | [x], _, _ => exact ⟨x, rfl⟩
              | [], h, _ => exact absurd rfl h
              | _ :: _ :: _, _, h => simp at h
            have hx := hd x (by simp)
            simp only [isDg, Bool.and_eq_true, decide_eq_true_eq] at hx
            simp only [nv, nvA_cons, nvA_nil]
            have : x ≠ 48 := by intro e; subst e; simp at hz'
            have h48 : x.toNat ≠ 48 := fun e => this (by rw [← UInt8.toNat_inj]; exact e)
            omega
        have hge : ¬ nv r * 10 + (c.toNat - 48) < 10 := by omega
        refine ⟨?_, fun _ => by omega⟩
        rw [dec_big hge, show (nv r * 10 + (c.toNat - 48)) / 10 = nv r from by omega, e1, show (nv r * 10 + (c.toNat - 48)) % 10 = c.toNat - 48 from by omega, hcc]
  exact key s.length s rfl h1 hz hd

theorem isRt_iff (s : List UInt8) : isRt s = true ↔ s = Lib.decDigits (nv s) ∧ s.length ≤ 400 := by
  constructor
  · intro h
    simp only [isRt, Bool.and_eq_true, decide_eq_true_eq, Bool.not_eq_true', List.all_eq_true] at h
    obtain ⟨⟨⟨h1, h2⟩, h3⟩, h4⟩ := h
    refine ⟨(dec_nv s (by intro e; subst e; simp at h1) (fun hl hh => ?_) h4).1.symm, h2⟩
    rw [hh] at h3
    simp [hl] at h3
  · rintro ⟨h1, h2⟩
    have hne := dec_ne_nil (nv s)
    rw [← h1] at hne
    simp only [isRt, Bool.and_eq_true, decide_eq_true_eq, Bool.not_eq_true', List.all_eq_true]
    refine ⟨⟨⟨List.length_pos_iff.2 hne, h2⟩, ?_⟩, fun c hc => dec_isDg (nv s) c (by rw [← h1]; exact hc)⟩
    by_cases hl : 1 < s.length
    · have : 10 ≤ nv s := by
        by_cases h10 : nv s < 10
        · rw [dec_small h10] at h1; rw [h1] at hl; simp at hl
        · omega
      have := dec_head this
      rw [← h1] at this
      simp [this]
    · simp [hl]

theorem nvA_ge (a : Nat) (s : List UInt8) : a ≤ nvA a s := by
  rw [nvA_eq]
  have : a * 1 ≤ a * 10 ^ s.length := Nat.mul_le_mul_left _ (Nat.pow_pos (by omega))
  omega

/-- strconv.ParseUint at digits. -/
theorem parse_ok {M : Nat} (hM : M ≤ 18446744073709551615) : ∀ (g : List UInt8) (a : Nat), (∀ c ∈ g, isDg c = true) → nvA a g ≤ M → Lib.parseUintM M a g = .ok (nvA a g)
  | [], a, _, _ => by rw [nvA_nil]; rfl
  | c :: r, a, hd, h => by
    have hc := hd c (by simp)
    simp only [isDg, Bool.and_eq_true, decide_eq_true_eq] at hc
    rw [nvA_cons] at h ⊢
    have hge := nvA_ge (a * 10 + (c.toNat - 48)) r
    rw [Lib.parseUintM, if_pos hc, if_neg (by omega), if_neg (by omega)]
    exact parse_ok hM r _ (fun x hx => hd x (by simp [hx])) h
theorem parse_range {M : Nat} : ∀ (g : List UInt8) (a : Nat), (∀ c ∈ g, isDg c = true) → a ≤ M → M < nvA a g → Lib.parseUintM M a g = .range
  | [], a, _, h1, h2 => by rw [nvA_nil] at h2; omega
  | c :: r, a, hd, h1, h2 => by
    have hc := hd c (by simp)
    simp only [isDg, Bool.and_eq_true, decide_eq_true_eq] at hc
    rw [nvA_cons] at h2
    rw [Lib.parseUintM, if_pos hc]
    by_cases e1 : 1844674407370955162 ≤ a
    · rw [if_pos e1]
    · rw [if_neg e1]
      by_cases e2 : M < a * 10 + (c.toNat - 48)
      · rw [if_pos e2]
      · rw [if_neg e2]
        exact parse_range r _ (fun x hx => hd x (by simp [hx])) (by omega) h2

theorem parse64 {g : List UInt8} (h0 : g ≠ []) (hd : ∀ c ∈ g, isDg c = true) : Lib.parseUintB 64 g = if nv g < 18446744073709551616 then .ok (nv g) else .range := by
  unfold Lib.parseUintB
  rw [if_neg h0]
  by_cases h : nv g < 18446744073709551616
  · rw [if_pos h]
    exact parse_ok (by decide) g 0 hd (by unfold nv at h; simp only [Nat.reducePow, Nat.reduceSub]; omega)
  · rw [if_neg h]
    exact parse_range g 0 hd (by omega) (by unfold nv at h; simp only [Nat.reducePow, Nat.reduceSub]; omega)
/-- a natural's digits, unless they are too many; the error. -/
def fitS (n : Nat) : List UInt8 := if Lib.nDigits n ≤ 400 then Lib.decDigits n else []
def fitE (n : Nat) : Int := if Lib.nDigits n ≤ 400 then 0 else 11
def powS (b : Nat) (x : Int) : List UInt8 := if 0 ≤ x ∧ x ≤ 400 then fitS (b ^ x.toNat) else []
def powE (b : Nat) (x : Int) : Int := if 0 ≤ x ∧ x ≤ 400 then fitE (b ^ x.toNat) else 10
end Go.Proofs.YtpjlepkdiaohiaaGreatDoor

/- Plain arithmetic, with no program in sight: naturals as groups of nine digits (limbs), the least one first. -/
namespace Go.Proofs.YtpjlepkdiaohiaaGreatDoor
open Go

/-- a natural's limbs. -/
def lim (n : Nat) : List Nat := if h : n = 0 then [] else n % 1000000000 :: lim (n / 1000000000)
  termination_by n
  decreasing_by omega

/-- the number of limbs. -/
def val : List Nat → Nat
  | [] => 0
  | x :: r => x + 1000000000 * val r

/-- all below the base. -/
def Grp (l : List Nat) : Prop := ∀ j : Nat, l[j]?.getD 0 < 1000000000

theorem Grp.tail {x : Nat} {r : List Nat} (h : Grp (x :: r)) : Grp r := fun j => by have := h (j + 1); simpa using this
theorem Grp.head {x : Nat} {r : List Nat} (h : Grp (x :: r)) : x < 1000000000 := by have := h 0; simpa using this
theorem Grp.nil : Grp [] := fun j => by simp
theorem Grp.cons {x : Nat} {r : List Nat} (h : x < 1000000000) (hr : Grp r) : Grp (x :: r) := fun j => by
  cases j with
  | zero => simpa using h
  | succ j => simpa using hr j
theorem Grp.append {a b : List Nat} (ha : Grp a) (hb : Grp b) : Grp (a ++ b) := fun j => by
  by_cases h : j < a.length
  · rw [List.getElem?_append_left h]; exact ha j
  · rw [List.getElem?_append_right (by omega)]; exact hb _
theorem Grp.take {a : List Nat} (h : Grp a) (k : Nat) : Grp (a.take k) := fun j => by
  rw [List.getElem?_take]; split
  · exact h j
  · simp
theorem Grp.drop {a : List Nat} (h : Grp a) (k : Nat) : Grp (a.drop k) := fun j => by
  rw [List.getElem?_drop]; exact h _
theorem Grp.set {a : List Nat} (h : Grp a) (k x : Nat) (hx : x < 1000000000) : Grp (a.set k x) := fun j => by
  rw [List.getElem?_set]
  split
  · split
    · simpa using hx
    · simp
  · exact h j
theorem Grp.replicate (n : Nat) : Grp (List.replicate n 0) := fun j => by
  rw [List.getElem?_replicate]; split <;> simp

/-- how many of the first n limbs are left without zeros at their end. -/
def trimN (l : List Nat) : Nat → Nat
  | 0 => 0
  | n + 1 => if l[n]?.getD 0 = 0 then trimN l n else n + 1

/-! ### a limb's digits behind those of a number -/

/-- k digits. -/
def pad : Nat → Nat → List UInt8
  | 0, _ => []
  | k + 1, x => pad k (x / 10) ++ [UInt8.ofNat (48 + x % 10)]

/-! ### groups of nine digits -/

/-- a text's groups of nine bytes, from its end on. -/
def chunks (s : List UInt8) : List (List UInt8) := if h : s = [] then [] else s.drop (s.length - 9) :: chunks (s.take (s.length - 9))
  termination_by s.length
  decreasing_by have := List.length_pos_iff.2 h; simp; omega

end Go.Proofs.YtpjlepkdiaohiaaGreatDoor

/- What all walks share: facts kept from the walk; slices of limbs as they read; worlds. -/
namespace Go.Proofs.YtpjlepkdiaohiaaGreatDoor
open Go.RowKit

theorem hid {p : Prop} (h : p) : Hid p := h

theorem ret_bool {a b : Bool} (h : a = b) : Ending.returned (.bool a) = .returned (.bool b) := by rw [h]
theorem ret_int {k : IntKind} {a b : Int} (h : a = b) : Ending.returned (.int k a) = .returned (.int k b) := by rw [h]
theorem ret_str {a b : ByteArray} (h : a = b) : Ending.returned (.string a) = .returned (.string b) := by rw [h]
/-- the digits, as a text. -/
def digs : ByteArray := ⟨#[48, 49, 50, 51, 52, 53, 54, 55, 56, 57]⟩

theorem str_eq (s : ByteArray) : (⟨s.data.toList.toArray⟩ : ByteArray) = s := by cases s; simp
theorem extract_take (s : ByteArray) (k : Nat) : (s.extract 0 k).data.toList = s.data.toList.take k := by
  rw [Lib.extract_data, List.drop_zero, Nat.sub_zero]
/-- a text's own letters; a text of letters. -/
def tx (s : ByteArray) : List UInt8 := s.data.toList
def B (l : List UInt8) : ByteArray := ⟨l.toArray⟩
theorem tx_B (l : List UInt8) : tx (B l) = l := by simp [tx, B]
theorem size_B (l : List UInt8) : (B l).size = l.length := by simp [B, ByteArray.size]
theorem B_tx (s : ByteArray) : B (tx s) = s := str_eq s
theorem len_str (s : ByteArray) : s.data.toList.length = s.size := by cases s; rfl

/-- THE TABLES THAT THE LIBRARY READS, AS THEY ARE LAID. -/
structure Tabs (w : World) : Prop where
  pow10 : Lib.TabIs Tryz.prog w "internal/strconv.uint64pow10" .u64 Lib.pow10Tab
  range : ∃ tp p, w.var? Tryz.prog "strconv.ErrRange" = some #[.iface tp p]
  synt : ∃ tp p, w.var? Tryz.prog "strconv.ErrSyntax" = some #[.iface tp p]

theorem pow10_glob : Tryz.prog.globalNamed "internal/strconv.uint64pow10" = some 10 := by kernel_rfl
theorem range_glob : Tryz.prog.globalNamed "strconv.ErrRange" = some 8 := by kernel_rfl

theorem synt_glob : Tryz.prog.globalNamed "strconv.ErrSyntax" = some 7 := by kernel_rfl

theorem lt_of_var {w : World} {name : String} {g : Nat} {r : Array Value} (hg : Tryz.prog.globalNamed name = some g) (h : w.var? Tryz.prog name = some r) : g < w.heap.size := by
  unfold World.var? at h
  simp only [hg, Option.bind_some] at h
  cases e : w.heap[g]? with
  | none => rw [e] at h; cases h
  | some o => exact (Array.getElem?_eq_some_iff.1 e).1

theorem var_kept {w w' : World} {name : String} {g : Nat} {r : Array Value} (hg : Tryz.prog.globalNamed name = some g) (h : w.var? Tryz.prog name = some r) (hb : Below w.heap.size w w') : w'.var? Tryz.prog name = some r :=
  var?_below hb hg (lt_of_var hg h) h

theorem Tabs.below {w w' : World} (h : Tabs w) (hb : Below w.heap.size w w') : Tabs w' :=
  ⟨var_kept pow10_glob h.pow10 hb, let ⟨tp, p, e⟩ := h.range; ⟨tp, p, var_kept range_glob e hb⟩, let ⟨tp, p, e⟩ := h.synt; ⟨tp, p, var_kept synt_glob e hb⟩⟩

theorem belowN {B : Nat} {a w : World} (h : Below B a w) (n : Nat) : Below B a (w.drewN n) := ⟨h.os, h.tape, h.output, h.size, h.block⟩
theorem below_alloc (w : World) (o : Obj) : Below w.heap.size w (w.alloc o) := (Below.refl _ _).alloc (Nat.le_refl _) o
theorem Tabs.alloc {w : World} (h : Tabs w) (o : Obj) : Tabs (w.alloc o) := h.below (below_alloc w o)
theorem Tabs.drew {w : World} (h : Tabs w) : Tabs w.drew := h.below (Below.refl _ _).drew

/-! ### a slice of limbs, as it reads -/

/-- the slice value v reads as the limbs xs, each in a cell of kind u32. -/
def Lim (w : World) (v : Value) (xs : List Nat) : Prop :=
  ∃ a cap, v = .slice a xs.length cap ∧ xs.length ≤ cap ∧ (cap ≤ maxLen ∧ ∀ k, v.ownBlock = some k → ∃ c fz, w.heap[k]? = some (.cells c 214 fz)) ∧
    (xs ≠ [] → ∃ b off, a = some ⟨b, off, none⟩ ∧ b < w.heap.size ∧ ∀ j, j < xs.length → w.cell? ⟨b, off + j, none⟩ = some (.int .u32 (xs[j]?.getD 0 : Nat)))

theorem Lim.below {w w' : World} {v : Value} {xs : List Nat} (h : Lim w v xs) (hb : Below w.heap.size w w') : Lim w' v xs := by
  obtain ⟨a, cap, h1, h2, h3, h4⟩ := h
  refine ⟨a, cap, h1, h2, ⟨h3.1, fun k hk => let ⟨c, fz, e⟩ := h3.2 k hk; ⟨c, fz, (hb.block k (Array.getElem?_eq_some_iff.1 e).1).trans e⟩⟩, fun hne => ?_⟩
  obtain ⟨b, off, e1, e2, e3⟩ := h4 hne
  exact ⟨b, off, e1, Nat.lt_of_lt_of_le e2 hb.size, fun j hj => (hb.cell (p := ⟨b, off + j, none⟩) e2).trans (e3 j hj)⟩

theorem Lim.own {w : World} {v : Value} {xs : List Nat} (h : Lim w v xs) : ∀ k, v.ownBlock = some k → k < w.heap.size := let ⟨_, _, _, _, h3, _⟩ := h; fun k hk => let ⟨_, _, e⟩ := h3.2 k hk; (Array.getElem?_eq_some_iff.1 e).1
theorem Lim.nil (w : World) : Lim w (.slice none 0 0) [] := ⟨none, 0, rfl, Nat.le_refl _, ⟨by simp [maxLen], fun k hk => by simp [Value.ownBlock] at hk⟩, fun h => absurd rfl h⟩

end Go.Proofs.YtpjlepkdiaohiaaGreatDoor

/- A range over a function whose iterator may turn what is its own (a variable that it has captured), by a law of this claim's own: over any program. -/
namespace Go.Proofs.YtpjlepkdiaohiaaGreatDoor
open Go Go.RowKit

variable {P : Program}

/-- a contract at a call within a round, and outside of one. -/
theorem callR {l n : Nat} {f : FuncId} {args : Array Value} {w : World} {R R' : Ending → World → Prop} (h : Calls P f args w R) (hm : ∀ e w', R e w' → R' e w') : Fence.wide.fn f ∧ CallsIn (Fence.wide.inRound l) n P f args w R' :=
  ⟨trivial, (CallsIn.inRound l (callsIn_wide.2 h)).mono hm⟩
theorem callW {n : Nat} {f : FuncId} {args : Array Value} {w : World} {R R' : Ending → World → Prop} (h : Calls P f args w R) (hm : ∀ e w', R e w' → R' e w') : Fence.wide.fn f ∧ CallsIn Fence.wide n P f args w R' :=
  ⟨trivial, (callsIn_wide.2 h).mono hm⟩

/-- THE CONTRACT OF AN ITERATOR: It: what it may turn between two rounds; Kp: what a round that goes on keeps; Ok: what is known of what comes. -/
def IterC {α : Type} (P : Program) (g : Nat) (lb : Array Value) (encs : α → Array Value) (It Kp : World → World → Prop) (Ok : List α → α → Prop) (S Sp : List α → World → Prop) (w : World) : Prop :=
  ∀ (l : Nat) (J Jx : List α → World → Prop) (W : World), Below w.heap.size w W → (∀ s A B, J s A → It A B → J s B) → (∀ s A B, Jx s A → It A B → Jx s B) →
    (∀ pre x W1, J pre W1 → Ok pre x → YieldAt Fence.wide 7 P l (encs x) W1 fun e W' =>
      (e = .returned (.bool true) ∧ J (pre ++ [x]) W' ∧ Kp W1 W') ∨ (e = .returned (.bool false) ∧ Jx (pre ++ [x]) W')) →
    J [] W →
    CallsIn Fence.wide 8 P g (#[.func (.yield l) #[] #[]] ++ lb) W fun e W' => (∃ v, e = .returned v) ∧ ((∃ xs, S xs W' ∧ J xs W') ∨ (∃ pre, Sp pre W' ∧ Jx pre W'))

/-- how a round's body may be left. -/
def overPost {α : Type} (B : Nat) (Kp : World → World → Prop) (I : List α → World → Prop) (Ix : Code → List α → World → Prop) (xs : List α) (W : World) : Exit → Act → World → Prop
  | .normal, _, W' => KeepsFrom B W W' ∧ Kp W W' ∧ I xs W'
  | .ret, _, W' => KeepsFrom B W W' ∧ Ix .ret xs W'
  | .exit id, _, W' => KeepsFrom B W W' ∧ Ix (.exit id) xs W'
  | .goto t, _, W' => KeepsFrom B W W' ∧ Ix (.goto t) xs W'
  | .panic _, _, _ => False
  | .outgrown, _, _ => False

/-- THE LAW OF THE STATEMENT. -/
theorem rangeOverG {α : Type} {g : Operand} {ps : Array Tmp} {assign body : Code} {Q : Exit → Act → World → Prop} {a : Act} {w : World}
    {gf : Nat} {lb : Array Value} (hg : a.eval g = .func (.func gf) #[] lb) (eg : ∀ args w, (callFunc gf args).run P w = .ok (.enter gf args) w)
    {encs : α → Array Value} {It Kp : World → World → Prop} {Ok : List α → α → Prop} {S Sp : List α → World → Prop} {w0 : World} (hseq : IterC P gf lb encs It Kp Ok S Sp w0)
    (hb0 : Below w0.heap.size w0 w) (hps : ∀ x, (encs x).size = ps.size)
    (hIt : ∀ (A B : World), It A B → A.heap.size ≤ B.heap.size ∧ ∀ (k : Nat) (o : Obj), w.heap.size ≤ k → A.heap[k]? = some o → o.isCells = false → o.isWalk = false → B.heap[k]? = some o)
    (hKt : ∀ {A B C : World}, Kp A B → Kp B C → Kp A C) (hKb : ∀ (W : World) (l : Nat) (o o' : Obj), w.heap.size ≤ l → W.heap[l]? = some o → o.isCells = false → o.isWalk = false → Kp W (W.putObj l o'))
    (hS : OwnFrom w.heap.size S) (hSp : OwnFrom w.heap.size Sp)
    (I : List α → World → Prop) (Ix : Code → List α → World → Prop) (hI : OwnFrom w.heap.size I) (hIx : ∀ c, OwnFrom w.heap.size (Ix c))
    (hII : ∀ s A B, I s A → It A B → I s B) (hIxI : ∀ c s A B, Ix c s A → It A B → Ix c s B) (h0 : I [] w)
    (Ax : α → Act → World → Prop) (hAx : ∀ x a', OwnFrom w.heap.size (fun (_ : Unit) W => Ax x a' W))
    (hassign : ∀ (l : Nat) (pre : List α) (x : α) (W : World) (K : Act → World → Prop), I pre W → Ok pre x → (∀ a' W', KeepsFrom w.heap.size W W' → Kp W W' → I pre W' → Ax x a' W' → K a' W') →
      assign.wpIn (Fence.wide.inRound l) 7 P (Exit.then K (fun _ _ _ => False)) { tmps := (ps.zip (encs x)).foldl (fun t (p, v) => t.setIfInBounds p v) a.tmps, defers := [] } W)
    (hbody : ∀ (l : Nat) (pre : List α) (x : α) (a' : Act) (W : World), w.heap.size ≤ l → I pre W → Ax x a' W → Ok pre x → body.wpIn (Fence.wide.inRound l) 7 P (overPost w.heap.size Kp I Ix (pre ++ [x]) W) a' W)
    (hdone : ∀ (D : Nat) (xs : List α) (W : World), w.heap.size ≤ D → S xs W → I xs W → W.heap[D]? = some (.deferred (some [])) → Q .normal { a with defers := { target := .collected D, args := #[] } :: a.defers } W)
    (hstop : ∀ (D : Nat) (c : Code) (pre : List α) (W : World), w.heap.size ≤ D → Sp pre W → Ix c pre W → W.heap[D]? = some (.deferred (some [])) → c.wpIn Fence.wide 9 P Q { a with defers := { target := .collected D, args := #[] } :: a.defers } W) :
    (Code.rangeFunc g ps assign body).wpIn Fence.wide 9 P Q a w := by
  refine wpIn_rangeFunc ?_
  intro fn hfn
  rw [show Fence.wide.round = none from rfl]
  -- the record, in each of its states
  obtain ⟨rec, hrec⟩ : ∃ rec : LoopState → Option Code → Loop, rec = fun st pe => { state := st, pending := pe, fn, tmps := a.tmps, params := ps, assign, body, defers := w.heap.size } := ⟨_, rfl⟩
  have hst : ∀ st pe st' pe', ({ rec st pe with state := st', pending := pe' } : Loop) = rec st' pe' := fun _ _ _ _ => by rw [hrec]
  have hst1 : ∀ st pe st', ({ rec st pe with state := st' } : Loop) = rec st' pe := fun _ _ _ => by rw [hrec]
  have hs0 : ∀ st pe, (rec st pe).state = st := fun _ _ => by rw [hrec]
  have hs1 : ∀ st pe, (rec st pe).pending = pe := fun _ _ => by rw [hrec]
  have hs2 : ∀ st pe, (rec st pe).params = ps := fun _ _ => by rw [hrec]
  obtain ⟨W1, hW1⟩ : ∃ W1, (w.alloc (.deferred (some []))).alloc (.loop (rec .ready none)) = W1 := ⟨_, rfl⟩
  have hsz : W1.heap.size = w.heap.size + 2 := by rw [← hW1]; simp
  -- the law's book-keeping
  have book : ∀ (W : World) (st : LoopState) (pe : Option Code), W.heap[w.heap.size + 1]? = some (.loop (rec st pe)) → w.heap.size + 1 < W.heap.size := fun W st pe h => (Array.getElem?_eq_some_iff.1 h).1
  refine ⟨w.heap.size + 1, [{ target := .collected w.heap.size, args := #[] }], W1, { target := .fn (.func gf) lb, args := #[.func (.yield (w.heap.size + 1)) #[] #[]] }, W1, gf,
    #[.func (.yield (w.heap.size + 1)) #[] #[]] ++ lb, W1, ?_, ?_, fun _ _ => trivial, ?_, fun h => by simp [Fence.wide] at h, ?_⟩
  · rw [← hW1, hrec]; exact run_enterLoop_outer _ _ _ _ _
  · simp only [resolve, hg]
    simp [go_sem]
  · simp [invoke, go_sem, eg]
  have hL1 : W1.heap[w.heap.size + 1]? = some (.loop (rec .ready none)) := by
    rw [← hW1]
    have := World.alloc_heap_new (w.alloc (.deferred (some []))) (.loop (rec .ready none))
    rwa [World.size_alloc] at this
  have hD1 : W1.heap[w.heap.size]? = some (.deferred (some [])) := by
    rw [← hW1]; exact (Below.heap_alloc _ _ _ (by simp)).trans (World.alloc_heap_new w _)
  have hI1 : I [] W1 := by rw [← hW1]; exact hI.alloc _ (hI.alloc _ h0)
  have hb1 : Below w0.heap.size w0 W1 := by
    rw [← hW1]; exact hb0.trans ((((Below.refl _ w).alloc (Nat.le_refl _) _).alloc (by simp) _).mono hb0.size)
  refine CallsIn.mono (R := fun e W' => (∃ v, e = .returned v) ∧ ((∃ xs, S xs W' ∧ (I xs W' ∧ W'.heap[w.heap.size + 1]? = some (.loop (rec .ready none)) ∧ W'.heap[w.heap.size]? = some (.deferred (some [])))) ∨
      (∃ pre, Sp pre W' ∧ ∃ c, Ix c pre W' ∧ W'.heap[w.heap.size + 1]? = some (.loop (rec .done (some c))) ∧ W'.heap[w.heap.size]? = some (.deferred (some []))))) ?_ ?_
  · refine hseq (w.heap.size + 1)
      (fun pre W => I pre W ∧ W.heap[w.heap.size + 1]? = some (.loop (rec .ready none)) ∧ W.heap[w.heap.size]? = some (.deferred (some [])))
      (fun pre W => ∃ c, Ix c pre W ∧ W.heap[w.heap.size + 1]? = some (.loop (rec .done (some c))) ∧ W.heap[w.heap.size]? = some (.deferred (some []))) W1 hb1
      (fun s A B ⟨hi, hl, hd⟩ hit => ⟨hII s A B hi hit, (hIt A B hit).2 _ _ (by omega) hl rfl rfl, (hIt A B hit).2 _ _ (Nat.le_refl _) hd rfl rfl⟩)
      (fun s A B ⟨c, hi, hl, hd⟩ hit => ⟨c, hIxI c s A B hi hit, (hIt A B hit).2 _ _ (by omega) hl rfl rfl, (hIt A B hit).2 _ _ (Nat.le_refl _) hd rfl rfl⟩) ?_ ⟨hI1, hL1, hD1⟩
    rintro pre x W ⟨hi, hl, hd⟩ hok
    have hy := run_yield (P := P) (args := encs x) hl (by rw [hs2]; exact hps x)
    rw [hrec] at hy
    refine ⟨fn, _, assign, body, hy, roundIn_of_wpIn hfn (hassign _ pre x W _ hi hok ?_)⟩
    clear hy
    intro a' Wa hkf hkp hia hax
    have hla := hkf.same _ _ (by omega) hl rfl
    have hda := hkf.same _ _ (Nat.le_refl _) hd rfl
    have hlta := book _ _ _ hla
    have hlb : (Wa.putObj (w.heap.size + 1) (.loop (rec .busy none))).heap[w.heap.size + 1]? = some (.loop (rec .busy none)) := World.putObj_heap_same hlta
    have hdb : (Wa.putObj (w.heap.size + 1) (.loop (rec .busy none))).heap[w.heap.size]? = some (.deferred (some [])) := (World.putObj_heap_other (by omega)).trans hda
    refine ⟨Wa.putObj (w.heap.size + 1) (.loop (rec .busy none)), by rw [run_beginRound hla (by rw [hs0]), hst1], ?_⟩
    refine wpIn_mono (hbody _ pre x a' _ (by omega) (hI.putObj _ hia (by omega) hla rfl) ((hAx x a').putObj (s := ()) _ hax (by omega) hla rfl) hok) ?_
    have hkb : Kp Wa (Wa.putObj (w.heap.size + 1) (.loop (rec .busy none))) := hKb _ _ _ _ (by omega) hla rfl rfl
    -- the round's end, jump or none
    have fin : ∀ (jump : Option Code) (W3 : World), KeepsFrom w.heap.size (Wa.putObj (w.heap.size + 1) (.loop (rec .busy none))) W3 →
        W3.heap[w.heap.size + 1]? = some (.loop (rec .busy none)) ∧
        (Instr.endRound (w.heap.size + 1) jump).run P W3 = .ok (.bool jump.isNone) (W3.putObj (w.heap.size + 1) (.loop (rec (if jump.isNone then .ready else .done) jump))) ∧
        (W3.putObj (w.heap.size + 1) (.loop (rec (if jump.isNone then .ready else .done) jump))).heap[w.heap.size + 1]? = some (.loop (rec (if jump.isNone then .ready else .done) jump)) ∧
        (W3.putObj (w.heap.size + 1) (.loop (rec (if jump.isNone then .ready else .done) jump))).heap[w.heap.size]? = some (.deferred (some [])) := fun jump W3 hk3 => by
      have hl3 := hk3.same _ _ (by omega) hlb rfl
      refine ⟨hl3, by rw [run_endRound jump hl3, hst], World.putObj_heap_same (book _ _ _ hl3), (World.putObj_heap_other (by omega)).trans (hk3.same _ _ (Nat.le_refl _) hdb rfl)⟩
    rintro e a3 W3 hp
    cases e with
    | normal =>
      obtain ⟨hk3, hkp3, hi3⟩ := hp
      obtain ⟨hl3, hr, hl4, hd4⟩ := fin none W3 hk3
      exact ⟨_, _, hr, .inl ⟨rfl, ⟨hI.putObj _ hi3 (by omega) hl3 rfl, hl4, hd4⟩, hKt hkp (hKt (hKt hkb hkp3) (hKb _ _ _ _ (by omega) hl3 rfl rfl))⟩⟩
    | ret =>
      obtain ⟨hk3, hi3⟩ := hp
      obtain ⟨hl3, hr, hl4, hd4⟩ := fin (some .ret) W3 hk3
      exact ⟨_, _, hr, .inr ⟨rfl, .ret, (hIx _).putObj _ hi3 (by omega) hl3 rfl, hl4, hd4⟩⟩
    | exit id =>
      obtain ⟨hk3, hi3⟩ := hp
      obtain ⟨hl3, hr, hl4, hd4⟩ := fin (some (.exit id)) W3 hk3
      exact ⟨_, _, hr, .inr ⟨rfl, .exit id, (hIx _).putObj _ hi3 (by omega) hl3 rfl, hl4, hd4⟩⟩
    | goto t =>
      obtain ⟨hk3, hi3⟩ := hp
      obtain ⟨hl3, hr, hl4, hd4⟩ := fin (some (.goto t)) W3 hk3
      exact ⟨_, _, hr, .inr ⟨rfl, .goto t, (hIx _).putObj _ hi3 (by omega) hl3 rfl, hl4, hd4⟩⟩
    | panic ch => exact hp.elim
    | outgrown => exact hp.elim
  · rintro e W2 ⟨⟨v, rfl⟩, ⟨xs, hs, hi, hl, hd⟩ | ⟨pre, hsp, c, hi, hl, hd⟩⟩
    · refine ⟨none, W2.putObj (w.heap.size + 1) (.loop (rec .exhausted none)), ?_, hdone _ xs _ (Nat.le_refl _) (hS.putObj _ hs (by omega) hl rfl) (hI.putObj _ hi (by omega) hl rfl) ((World.putObj_heap_other (by omega)).trans hd)⟩
      rw [run_endLoop hl (by rw [hs0]; simp), hs1, hst]
    · refine ⟨some c, W2.putObj (w.heap.size + 1) (.loop (rec .exhausted (some c))), ?_, hstop _ c pre _ (Nat.le_refl _) (hSp.putObj _ hsp (by omega) hl rfl) ((hIx c).putObj _ hi (by omega) hl rfl) ((World.putObj_heap_other (by omega)).trans hd)⟩
      rw [run_endLoop hl (by rw [hs0]; simp), hs1, hst]

/-- .. of an iterator that turns cells alone. -/
theorem rangeOver {α : Type} {g : Operand} {ps : Array Tmp} {assign body : Code} {Q : Exit → Act → World → Prop} {a : Act} {w : World}
    {gf : Nat} {lb : Array Value} (hg : a.eval g = .func (.func gf) #[] lb) (eg : ∀ args w, (callFunc gf args).run P w = .ok (.enter gf args) w)
    {encs : α → Array Value} {It Kp : World → World → Prop} {Ok : List α → α → Prop} {S Sp : List α → World → Prop} {w0 : World} (hseq : IterC P gf lb encs It Kp Ok S Sp w0)
    (hb0 : Below w0.heap.size w0 w) (hps : ∀ x, (encs x).size = ps.size)
    (hIt : ∀ (A B : World), It A B → A.heap.size ≤ B.heap.size ∧ ∀ (k : Nat) (o : Obj), w.heap.size ≤ k → A.heap[k]? = some o → o.isCells = false → B.heap[k]? = some o)
    (hKt : ∀ {A B C : World}, Kp A B → Kp B C → Kp A C) (hKb : ∀ (W : World) (l : Nat) (o o' : Obj), w.heap.size ≤ l → W.heap[l]? = some o → o.isCells = false → o.isWalk = false → Kp W (W.putObj l o'))
    (hS : OwnFrom w.heap.size S) (hSp : OwnFrom w.heap.size Sp)
    (I : List α → World → Prop) (Ix : Code → List α → World → Prop) (hI : OwnFrom w.heap.size I) (hIx : ∀ c, OwnFrom w.heap.size (Ix c))
    (hII : ∀ s A B, I s A → It A B → I s B) (hIxI : ∀ c s A B, Ix c s A → It A B → Ix c s B) (h0 : I [] w)
    (Ax : α → Act → World → Prop) (hAx : ∀ x a', OwnFrom w.heap.size (fun (_ : Unit) W => Ax x a' W))
    (hassign : ∀ (l : Nat) (pre : List α) (x : α) (W : World) (K : Act → World → Prop), I pre W → Ok pre x → (∀ a' W', KeepsFrom w.heap.size W W' → Kp W W' → I pre W' → Ax x a' W' → K a' W') →
      assign.wpIn (Fence.wide.inRound l) 7 P (Exit.then K (fun _ _ _ => False)) { tmps := (ps.zip (encs x)).foldl (fun t (p, v) => t.setIfInBounds p v) a.tmps, defers := [] } W)
    (hbody : ∀ (l : Nat) (pre : List α) (x : α) (a' : Act) (W : World), w.heap.size ≤ l → I pre W → Ax x a' W → Ok pre x → body.wpIn (Fence.wide.inRound l) 7 P (overPost w.heap.size Kp I Ix (pre ++ [x]) W) a' W)
    (hdone : ∀ (D : Nat) (xs : List α) (W : World), w.heap.size ≤ D → S xs W → I xs W → W.heap[D]? = some (.deferred (some [])) → Q .normal { a with defers := { target := .collected D, args := #[] } :: a.defers } W)
    (hstop : ∀ (D : Nat) (c : Code) (pre : List α) (W : World), w.heap.size ≤ D → Sp pre W → Ix c pre W → W.heap[D]? = some (.deferred (some [])) → c.wpIn Fence.wide 9 P Q { a with defers := { target := .collected D, args := #[] } :: a.defers } W) :
    (Code.rangeFunc g ps assign body).wpIn Fence.wide 9 P Q a w :=
  rangeOverG hg eg hseq hb0 hps (fun A B h => ⟨(hIt A B h).1, fun k o h1 h2 h3 _ => (hIt A B h).2 k o h1 h2 h3⟩) hKt hKb hS hSp I Ix hI hIx hII hIxI h0 Ax hAx hassign hbody hdone hstop

/-- .. in a plain walk. -/
theorem rangeOverP {α : Type} {g : Operand} {ps : Array Tmp} {assign body : Code} {Q : Exit → Act → World → Prop} {a : Act} {w : World}
    {gf : Nat} {lb : Array Value} (hg : a.eval g = .func (.func gf) #[] lb) (eg : ∀ args w, (callFunc gf args).run P w = .ok (.enter gf args) w)
    {encs : α → Array Value} {It Kp : World → World → Prop} {Ok : List α → α → Prop} {S Sp : List α → World → Prop} {w0 : World} (hseq : IterC P gf lb encs It Kp Ok S Sp w0)
    (hb0 : Below w0.heap.size w0 w) (hps : ∀ x, (encs x).size = ps.size)
    (hIt : ∀ (A B : World), It A B → A.heap.size ≤ B.heap.size ∧ ∀ (k : Nat) (o : Obj), w.heap.size ≤ k → A.heap[k]? = some o → o.isCells = false → B.heap[k]? = some o)
    (hKt : ∀ {A B C : World}, Kp A B → Kp B C → Kp A C) (hKb : ∀ (W : World) (l : Nat) (o o' : Obj), w.heap.size ≤ l → W.heap[l]? = some o → o.isCells = false → o.isWalk = false → Kp W (W.putObj l o'))
    (hS : OwnFrom w.heap.size S) (hSp : OwnFrom w.heap.size Sp)
    (I : List α → World → Prop) (Ix : Code → List α → World → Prop) (hI : OwnFrom w.heap.size I) (hIx : ∀ c, OwnFrom w.heap.size (Ix c))
    (hII : ∀ s A B, I s A → It A B → I s B) (hIxI : ∀ c s A B, Ix c s A → It A B → Ix c s B) (h0 : I [] w)
    (Ax : α → Act → World → Prop) (hAx : ∀ x a', OwnFrom w.heap.size (fun (_ : Unit) W => Ax x a' W))
    (hassign : ∀ (l : Nat) (pre : List α) (x : α) (W : World) (K : Act → World → Prop), I pre W → Ok pre x → (∀ a' W', KeepsFrom w.heap.size W W' → Kp W W' → I pre W' → Ax x a' W' → K a' W') →
      assign.wpIn (Fence.wide.inRound l) 7 P (Exit.then K (fun _ _ _ => False)) { tmps := (ps.zip (encs x)).foldl (fun t (p, v) => t.setIfInBounds p v) a.tmps, defers := [] } W)
    (hbody : ∀ (l : Nat) (pre : List α) (x : α) (a' : Act) (W : World), w.heap.size ≤ l → I pre W → Ax x a' W → Ok pre x → body.wpIn (Fence.wide.inRound l) 7 P (overPost w.heap.size Kp I Ix (pre ++ [x]) W) a' W)
    (hdone : ∀ (D : Nat) (xs : List α) (W : World), w.heap.size ≤ D → S xs W → I xs W → W.heap[D]? = some (.deferred (some [])) → Q .normal { a with defers := { target := .collected D, args := #[] } :: a.defers } W)
    (hstop : ∀ (D : Nat) (c : Code) (pre : List α) (W : World), w.heap.size ≤ D → Sp pre W → Ix c pre W → W.heap[D]? = some (.deferred (some [])) → c.wp P Q { a with defers := { target := .collected D, args := #[] } :: a.defers } W) :
    (Code.rangeFunc g ps assign body).wp P Q a w :=
  wpIn_wide.1 (rangeOver hg eg hseq hb0 hps hIt hKt hKb hS hSp I Ix hI hIx hII hIxI h0 Ax hAx hassign hbody hdone (fun D c pre W h1 h2 h3 h4 => wpIn_wide.2 (hstop D c pre W h1 h2 h3 h4)))

/-- a function that holds ranges over functions, from its body in a plain walk. -/
theorem calls_marks {f : FuncId} {fn : Func} {c : Code} {args : Array Value} {w : World} {R : Ending → World → Prop} (hf : P.funcs[f]? = some fn) (hb : fn.body = some c)
    (h : c.wp P (bodyPostM Fence.wide 9 P fn R) { tmps := args ++ Array.replicate (fn.ntmps - args.size) undef, defers := [] } w) : Calls P f args w R :=
  (callsIn_wide (n := 9)).1 (callsIn_of_wp_marks hf hb trivial (wpIn_wide.2 h) rfl)

/-- the blocks of K lie as they lay. -/
def KeptAt (K : Nat → Prop) (A B : World) : Prop := ∀ k, K k → B.heap[k]? = A.heap[k]?
theorem KeptAt.refl (K : Nat → Prop) (A : World) : KeptAt K A A := fun _ _ => rfl
theorem KeptAt.trans {K : Nat → Prop} {A B C : World} (h : KeptAt K A B) (k : KeptAt K B C) : KeptAt K A C := fun i hi => (k i hi).trans (h i hi)
theorem KeptAt.below {K : Nat → Prop} {n : Nat} {A B : World} (h : Below n A B) (hK : ∀ k, K k → k < n) : KeptAt K A B := fun k hk => h.block k (hK k hk)
theorem KeptAt.setCell {K : Nat → Prop} (A : World) (p : Addr) (v : Value) (h : ¬ K p.block) : KeptAt K A (A.setCell p v) := fun k hk =>
  Below.heap_setCell _ _ _ _ (fun e => h (by rw [← e]; exact hk))
theorem KeptAt.putObj {K : Nat → Prop} (A : World) (l : Nat) (o : Obj) (h : ¬ K l) : KeptAt K A (A.putObj l o) := fun k hk =>
  World.putObj_heap_other (fun e => h (by rw [← e]; exact hk))
theorem KeptAt.cell {K : Nat → Prop} {A B : World} (h : KeptAt K A B) {p : Addr} (hp : K p.block) : B.cell? p = A.cell? p := World.cell?_of_block (h p.block hp)
theorem KeptAt.grown {K : Nat → Prop} {A B : World} {row : Option Nat} (h : A.grownBy B row) (hK : ∀ k, K k → k < A.heap.size ∧ some k ≠ row) : KeptAt K A B := fun k hk => h.block k (hK k hk).1 (hK k hk).2

/-- whatever is cells lies as it lay. -/
def CellsKept (A B : World) : Prop := ∀ (k : Nat) (c : Array Value) (t : TypeId) (fz : Nat × Nat), A.heap[k]? = some (.cells c t fz) → B.heap[k]? = some (.cells c t fz)
theorem CellsKept.below {A B : World} (h : Below A.heap.size A B) : CellsKept A B := fun k _ _ _ hk => (h.block k (Array.getElem?_eq_some_iff.1 hk).1).trans hk

theorem ownFrom_of {β : Type} {B : Nat} {I : β → World → Prop} (h : ∀ s W W', I s W → CellsKept W W' → Below B W W' → I s W') (hB : ∀ s W, I s W → B ≤ W.heap.size) : OwnFrom B I := by
  intro s W W' row hs hg hr
  refine h s W W' hs (fun k c t fz hk => ?_) ⟨hg.os, hg.tape, hg.output, hg.size, fun k hk => ?_⟩
  · refine (hg.block k (Array.getElem?_eq_some_iff.1 hk).1 ?_).trans hk
    intro e
    obtain ⟨_, o, ho, hc⟩ := hr k e.symm
    rw [hk] at ho
    cases ho
    cases hc
  · have := hB s W hs
    refine hg.block k (by omega) ?_
    intro e
    have := (hr k e.symm).1
    omega

theorem CellsKept.trans {A B C : World} (h : CellsKept A B) (k : CellsKept B C) : CellsKept A C := fun i c t fz hi => k i c t fz (h i c t fz hi)
theorem CellsKept.putObj {A : World} {l : Nat} {o : Obj} (o' : Obj) (h : A.heap[l]? = some o) (ho : o.isCells = false) : CellsKept A (A.putObj l o') := fun k c t fz hk => by
  refine (World.putObj_heap_other ?_).trans hk
  intro e
  subst e
  rw [hk] at h
  cases h
  cases ho
theorem CellsKept.cell {A B : World} (h : CellsKept A B) {p : Addr} {v : Value} (hc : A.cell? p = some v) : B.cell? p = some v := by
  unfold World.cell? at hc ⊢
  cases hA : A.heap[p.block]? with
  | none => simp [hA] at hc
  | some o =>
    cases o with
    | cells c t fz => rw [h _ _ _ _ hA]; rw [hA] at hc; exact hc
    | _ => simp [hA] at hc
theorem CellsKept.boxed {A B : World} {b : Nat} {t : TypeId} {v : Value} (h : CellsKept A B) (hb : Boxed A b t v) : Boxed B b t v := h b _ _ _ hb
theorem CellsKept.builder {A B : World} {T e : TypeId} {n b : Nat} {bs : List Value} (h : CellsKept A B) (hb : Lib.IsBuilderF T e n b bs A) : Lib.IsBuilderF T e n b bs B := by
  have key : ∀ p, Lib.BuilderAtF T e n b p bs A → Lib.BuilderAtF T e n b p bs B := by
    rintro p ⟨h1, v, h2, h3, h4⟩
    refine ⟨h1, v, h _ _ _ _ h2, ⟨h3.1, ?_⟩, h4⟩
    rcases h3.2 with hn | ⟨g, cap, cur, fz, hv, hb, hg, rest⟩
    · exact .inl hn
    · exact .inr ⟨g, cap, cur, fz, hv, hb, h _ _ _ _ hg, rest⟩
  exact hb.elim (fun x => .inl (key _ x)) (fun x => .inr (key _ x))

/-- block g is a row of numbers. -/
def RowN (W : World) (g : Nat) (e : TypeId) (k : IntKind) (xs : List Nat) : Prop := W.heap[g]? = some (.cells (xs.map fun x => Value.int k (x : Nat)).toArray e (0, 0))
theorem CellsKept.row {A B : World} {g : Nat} {e : TypeId} {k : IntKind} {xs : List Nat} (h : CellsKept A B) (hr : RowN A g e k xs) : RowN B g e k xs := h _ _ _ _ hr
theorem RowN.lt {W : World} {g : Nat} {e : TypeId} {k : IntKind} {xs : List Nat} (h : RowN W g e k xs) : g < W.heap.size := (Array.getElem?_eq_some_iff.1 h).1
theorem RowN.cell {W : World} {g : Nat} {e : TypeId} {k : IntKind} {xs : List Nat} (h : RowN W g e k xs) {j : Nat} (hj : j < xs.length) : W.cell? ⟨g, j, none⟩ = some (.int k (xs[j]?.getD 0 : Nat)) := by
  have : W.heap[g]? = some (.cells (xs.map fun x => Value.int k (x : Nat)).toArray e (0, 0)) := h
  simp [World.cell?, this, hj]
theorem RowN.frozen {W : World} {g : Nat} {e : TypeId} {k : IntKind} {xs : List Nat} (h : RowN W g e k xs) (j : Nat) : W.frozen? ⟨g, j, none⟩ = false := by
  have : W.heap[g]? = some (.cells (xs.map fun x => Value.int k (x : Nat)).toArray e (0, 0)) := h
  simp [World.frozen?, this]
theorem RowN.set {W : World} {g : Nat} {e : TypeId} {k : IntKind} {xs : List Nat} (h : RowN W g e k xs) (j x : Nat) : RowN (W.setCell ⟨g, j, none⟩ (.int k (x : Nat))) g e k (xs.set j x) := by
  have h' : W.heap[g]? = some (.cells (xs.map fun x => Value.int k (x : Nat)).toArray e (0, 0)) := h
  show (W.heap.modify g _)[g]? = _
  rw [Array.getElem?_modify, if_pos rfl, h']
  simp [List.map_set]
theorem RowN.other {W : World} {g b off : Nat} {e : TypeId} {k : IntKind} {xs : List Nat} (h : RowN W g e k xs) (hne : g ≠ b) (v : Value) : RowN (W.setCell ⟨b, off, none⟩ v) g e k xs :=
  (Below.heap_setCell _ _ _ _ hne).trans h
theorem boxed_other {W : World} {g b off : Nat} {t : TypeId} {u : Value} (h : Boxed W g t u) (hne : g ≠ b) (v : Value) : Boxed (W.setCell ⟨b, off, none⟩ v) g t u :=
  (Below.heap_setCell _ _ _ _ hne).trans h

theorem keeps_below {A B : World} (h : Below A.heap.size A B) : KeepsOthers A B := ⟨h.size, fun k _ hk _ => (h.block k (Array.getElem?_eq_some_iff.1 hk).1).trans hk⟩

theorem builder_new (W : World) (T e : TypeId) : Lib.IsBuilderF T e W.heap.size W.heap.size [] (W.alloc (.cells #[.pointer none, .slice none 0 0] T)) :=
  .inl ⟨Nat.le_refl _, .slice none 0 0, World.alloc_heap_new W _, ⟨by simp, .inl ⟨rfl, rfl⟩⟩, by simp [Value.ownBlock]⟩

theorem others_of_below {e : TypeId} {b : Option Nat} {A B : World} (h : Below A.heap.size A B) : Lib.OthersKept e b A B :=
  fun k _ hk _ _ => (h.block k (Array.getElem?_eq_some_iff.1 hk).1).trans hk

/-- WHAT WRITING INTO A BUILDER OF THE CALL's OWN (block b) TURNS: nothing below b; of what lies above, the rows of bytes alone. -/
structure Wrote (e : TypeId) (b : Nat) (A B : World) : Prop where
  below : Below b A B
  others : Lib.OthersKept e (some b) A B
theorem Wrote.refl (e : TypeId) (b : Nat) (A : World) : Wrote e b A A := ⟨Below.refl _ _, Lib.OthersKept.refl _ _ _⟩
theorem Wrote.trans {e : TypeId} {b : Nat} {A B C : World} (h : Wrote e b A B) (k : Wrote e b B C) : Wrote e b A C := ⟨h.below.trans k.below, h.others.trans k.others⟩
theorem Wrote.of_below {e : TypeId} {b : Nat} {A B : World} (h : Below A.heap.size A B) (hb : b ≤ A.heap.size) : Wrote e b A B := ⟨h.mono hb, others_of_below h⟩
theorem Wrote.boxed {e : TypeId} {b k : Nat} {A B : World} {t : TypeId} {v : Value} (h : Wrote e b A B) (hb : Boxed A k t v) (hk : k ≠ b) (ht : t ≠ e) : Boxed B k t v :=
  h.others k _ hb (by simpa using hk) (fun c fz e' => by cases e'; exact ht rfl)
theorem Wrote.keeps {e : TypeId} {b n : Nat} {A B : World} (h : Wrote e b A B) (hb : ∃ c T fz, A.heap[b]? = some (.cells c T fz)) : KeepsFrom n A B :=
  ⟨h.below.size, fun k o _ hk ho => h.others k o hk (fun e' => by
    obtain ⟨c, T, fz, hc⟩ := hb
    obtain rfl : k = b := by simpa using e'
    rw [hk] at hc; cases hc; cases ho) (fun c fz e' => by subst e'; cases ho)⟩
end Go.Proofs.YtpjlepkdiaohiaaGreatDoor

/- What lies in memory: blocks of cells. -/
namespace Go.Proofs.YtpjlepkdiaohiaaGreatDoor
open Go.RowKit

/-- a block of cells, of a struct. -/
def Cls (W : World) (g : Nat) (t : TypeId) (xs : List Value) : Prop := W.heap[g]? = some (.cells xs.toArray t (0, 0))
theorem Cls.lt {W : World} {g : Nat} {t : TypeId} {xs : List Value} (h : Cls W g t xs) : g < W.heap.size := (Array.getElem?_eq_some_iff.1 h).1
theorem Cls.cell {W : World} {g : Nat} {t : TypeId} {xs : List Value} (h : Cls W g t xs) (j : Nat) {v : Value} (hj : xs[j]? = some v) : W.cell? ⟨g, j, none⟩ = some v := by
  have : W.heap[g]? = some (.cells xs.toArray t (0, 0)) := h
  simp [World.cell?, this, hj]
theorem Cls.frozen {W : World} {g : Nat} {t : TypeId} {xs : List Value} (h : Cls W g t xs) (j : Nat) : W.frozen? ⟨g, j, none⟩ = false := by
  have : W.heap[g]? = some (.cells xs.toArray t (0, 0)) := h
  simp [World.frozen?, this]
theorem Cls.set {W : World} {g : Nat} {t : TypeId} {xs : List Value} (h : Cls W g t xs) (j : Nat) (v : Value) : Cls (W.setCell ⟨g, j, none⟩ v) g t (xs.set j v) := by
  have h' : W.heap[g]? = some (.cells xs.toArray t (0, 0)) := h
  show (W.heap.modify g _)[g]? = _
  rw [Array.getElem?_modify, if_pos rfl, h']
  simp
theorem Cls.other {W : World} {g b off : Nat} {t : TypeId} {xs : List Value} (h : Cls W g t xs) (hne : g ≠ b) (v : Value) : Cls (W.setCell ⟨b, off, none⟩ v) g t xs :=
  (Below.heap_setCell _ _ _ _ hne).trans h
theorem Cls.new (W : World) (t : TypeId) (xs : List Value) : Cls (W.alloc (.cells xs.toArray t)) W.heap.size t xs := World.alloc_heap_new W _
theorem Cls.kept {W W' : World} {row : Option Nat} {g : Nat} {t : TypeId} {xs : List Value} (h : Cls W g t xs) (hg : W.grownBy W' row) (hne : some g ≠ row) : Cls W' g t xs :=
  (hg.block g h.lt (fun e => hne e)).trans h
theorem Cls.alloc {W : World} {g : Nat} {t : TypeId} {xs : List Value} (h : Cls W g t xs) (o : Obj) : Cls (W.alloc o) g t xs := h.kept (World.grownBy_alloc W o none) (by simp)
theorem setCell_size (w : World) (a : Addr) (v : Value) : (w.setCell a v).heap.size = w.heap.size := by
  show (w.heap.modify a.block _).size = _
  exact Array.size_modify
theorem lt_of_cell {w : World} {g o : Nat} {v : Value} (h : w.cell? ⟨g, o, none⟩ = some v) : g < w.heap.size := by
  cases e : w.heap[g]? with
  | none => simp [World.cell?, e] at h
  | some x => exact (Array.getElem?_eq_some_iff.1 e).1
theorem cell_below {w w' : World} {g o : Nat} {v : Value} (h : w.cell? ⟨g, o, none⟩ = some v) (hb : Below w.heap.size w w') : w'.cell? ⟨g, o, none⟩ = some v := (hb.cell (p := ⟨g, o, none⟩) (lt_of_cell h)).trans h
theorem Cls.below {W W' : World} {g : Nat} {t : TypeId} {xs : List Value} (h : Cls W g t xs) (hb : Below W.heap.size W W') : Cls W' g t xs := (hb.block g h.lt).trans h
end Go.Proofs.YtpjlepkdiaohiaaGreatDoor

/- strconv.FormatUint at base 10: the number's decimal digits; nat.Right: is a text a natural? -/
namespace Go.Proofs.YtpjlepkdiaohiaaGreatDoor
open Go.RowKit Go.Shelf Go.Sort Go.Lib

theorem below_row {enc : UInt8 → Value} {B blk off : Nat} {w0 w : World} {d : Array UInt8} (h : Below B w0 w) (hg : B ≤ blk) : Below B w0 (putRow enc w blk off d) :=
  h.trans ⟨rfl, rfl, rfl, by simp [putRow, mapBlock], fun k hk => by
    simp only [putRow, mapBlock, Array.getElem?_modify]
    rw [if_neg (by omega)]⟩

set_option maxHeartbeats 1600000 in
set_option maxRecDepth 100000 in
theorem iFormatUint (u : Nat) (hu64 : u < 18446744073709551616) (w : World) (hT : Tabs w) :
    Calls Tryz.prog 194 #[.int .u64 u, .int .i64 10] w fun e w' => e = .returned (.string ⟨(Lib.decDigits u).toArray⟩) ∧ Below w.heap.size w w' := by
  by_cases hs : u < 100
  · have hs' : ((u : Int)) < 100 := by omega
    go_enter Tryz.func194, Tryz.ntmps194
    go_wp2_with (go_at_call 206; refine (Tryz.internal_strconv_small u hs _).mono ?_; rintro e w' ⟨rfl, rfl⟩)
    go_ret
    exact ⟨rfl, Below.refl _ _⟩
  · have hs' : ¬ ((u : Int)) < 100 := by omega
    have hu1 : 1 ≤ u := by omega
    have hnd20 : Lib.nDigits u ≤ 20 := by have := Lib.numDigits_eq u hu1 hu64; split at this <;> omega
    have htab := hT.pow10
    have hsl : ∀ W, (Instr.sliceAt 238 (.pointer (some ⟨w.heap.size, 0, none⟩)) none (some (.int .i64 (Lib.nDigits u : Int))) none).run Tryz.prog W = .ok (.slice (some ⟨w.heap.size, 0, none⟩) (Lib.nDigits u) 24) W := fun W => by
      rw [run_sliceAt_array_h W 238 ⟨w.heap.size, 0, none⟩ (by simp [Program.arrayLen, Program.elem, Tryz.underlying238]) .i64 (Lib.nDigits u : Int) (by omega) (by rw [show Tryz.prog.arrayLen 238 = 24 by simp [Program.arrayLen, Tryz.underlying238]]; omega)]
      go_simp
    have hH0 : Holds (fun (b : UInt8) => Value.int .u8 (b.toNat : Int)) (w.alloc (.cells Lib.zeros24 238)) w.heap.size 0 (Array.replicate (Lib.nDigits u) (0 : UInt8)) := fun j hj => by
      rw [Array.size_replicate] at hj
      rw [World.cell?_alloc_new]
      simpa [hj] using Lib.zeros24_at (0 + j) (by omega)
    have hfmt := Tryz.internal_strconv_formatBase10 w.heap.size 0 24 u (Array.replicate (Lib.nDigits u) 0) (w.alloc (.cells Lib.zeros24 238)) hH0 (by rw [Array.size_replicate]; exact Lib.lt_pow_nDigits u) hu64 (by rw [Array.size_replicate]; omega)
    rw [Array.size_replicate] at hfmt
    have HH0 := hid hH0
    clear hH0
    go_enter Tryz.func194, Tryz.ntmps194
    go_wp2_with (go_at_call 207; refine (Tryz.internal_strconv_numDigits u hu1 hu64 _ (Lib.tabIs_alloc htab _)).mono ?_; rintro e w' ⟨rfl, rfl⟩)
    refine hfmt.mono ?_
    rintro e w' ⟨rfl, k, v', dk, rfl, hF⟩
    have hcv : (convert 41 9 (.slice (some ⟨w.heap.size, 0, none⟩) (Lib.nDigits u) 24)).run Tryz.prog ((putRow (fun (b : UInt8) => Value.int .u8 (b.toNat : Int)) (w.alloc (.cells Lib.zeros24 238)) w.heap.size 0 dk).drewN k) = .ok (.string ⟨(Lib.decDigits u).toArray⟩) ((putRow (fun (b : UInt8) => Value.int .u8 (b.toNat : Int)) (w.alloc (.cells Lib.zeros24 238)) w.heap.size 0 dk).drewN k) := by
      have h := run_convert_bytes_back (P := Tryz.prog) ((putRow (fun (b : UInt8) => Value.int .u8 (b.toNat : Int)) (w.alloc (.cells Lib.zeros24 238)) w.heap.size 0 dk).drewN k) 41 9 5 ⟨w.heap.size, 0, none⟩ 24 (Lib.decDigits u) Tryz.underlying41 Tryz.underlying5 Tryz.underlying9 (fun j hj => by
        rw [Lib.row_is_numeral hF j hj, Lib.add_plain, World.cell?_drewN]
        exact cell?_putRow (fun (b : UInt8) => Value.int .u8 (b.toNat : Int)) _ w.heap.size 0 _ dk HH0.out (by rw [hF.size, Array.size_replicate]) j (by rw [hF.size]; rw [Lib.decDigits_length] at hj; exact hj))
      rw [Lib.decDigits_length] at h
      exact h
    go_wp2
    go_ret
    exact ⟨rfl, belowN (below_row (below_alloc w _) (Nat.le_refl _)) k⟩

set_option maxRecDepth 100000 in
theorem formatUint (u : Nat) (hu64 : u < 18446744073709551616) (w : World) (hT : Tabs w) :
    Calls Tryz.prog 171 #[.int .u64 u, .int .i64 10] w fun e w' => e = .returned (.string ⟨(Lib.decDigits u).toArray⟩) ∧ Below w.heap.size w w' := by
  go_enter Tryz.func171, Tryz.ntmps171
  go_wp2_with (go_at_call 194; refine (iFormatUint u hu64 _ hT).mono ?_; rintro e w' ⟨rfl, hb⟩)
  go_ret
  exact ⟨rfl, hb⟩

theorem dropWhile_nil {p : UInt8 → Bool} {l : List UInt8} : l.dropWhile p = [] ↔ ∀ c ∈ l, p c = true := by
  induction l with
  | nil => simp
  | cons x r ih =>
    rw [List.dropWhile_cons]
    by_cases h : p x = true
    · simp [h, ih]
    · simp [h]

theorem dropWhile_idem {p : UInt8 → Bool} (l : List UInt8) : (l.dropWhile p).dropWhile p = l.dropWhile p := by
  induction l with
  | nil => rfl
  | cons x r ih =>
    rw [List.dropWhile_cons]
    by_cases h : p x = true
    · simp only [h, if_true, ih]
    · simp [h]

theorem trimS_nil {l ds : List UInt8} : Lib.trimS l ds = [] ↔ ∀ c ∈ l, ds.contains c = true := by
  unfold Lib.trimS Lib.trimLeftS Lib.trimRightS
  rw [dropWhile_nil]
  constructor
  · intro h
    have h' : ∀ c ∈ l.reverse.dropWhile (ds.contains ·), ds.contains c = true := fun c hc => h c (by simpa using hc)
    have e := dropWhile_nil.2 h'
    rw [dropWhile_idem] at e
    have := dropWhile_nil.1 e
    exact fun c hc => this c (by simpa using hc)
  · intro h
    have e : l.reverse.dropWhile (ds.contains ·) = [] := dropWhile_nil.2 fun c hc => h c (by simpa using hc)
    rw [e]
    simp

theorem digs_has (c : UInt8) : digs.data.toList.contains c = isDg c := by
  have key : ∀ n : Fin 256, digs.data.toList.contains (UInt8.ofNat n.val) = isDg (UInt8.ofNat n.val) := by decide +kernel
  have := key ⟨c.toNat, c.toNat_lt⟩
  simpa using this

theorem trim_all (l : List UInt8) : (Lib.trimS l digs.data.toList).isEmpty = l.all isDg := by
  rw [Bool.eq_iff_iff, List.isEmpty_iff, trimS_nil, List.all_eq_true]
  exact ⟨fun h c hc => by rw [← digs_has]; exact h c hc, fun h c hc => by rw [digs_has]; exact h c hc⟩

theorem trim_digs (s : ByteArray) (w : World) (hs : s.size ≤ 140737488355328) :
    Calls Tryz.prog 176 #[.string s, .string digs] w fun e w' => e = .returned (.string ⟨(Lib.trimS s.data.toList digs.data.toList).toArray⟩) ∧ Below w.heap.size w w' :=
  Any.strings_Trim_laid Tryz.lays160 (by kernel_rfl) s digs w (by omega) (by decide) (ascii_of_all (by decide))

theorem emp_of (s : ByteArray) (h : s.size = 0) : s.toList = [] ∧ s.data.toList = [] := by
  have : s.data.toList = [] := List.eq_nil_of_length_eq_zero (by rw [len_str]; exact h)
  exact ⟨by rw [Lib.toList_data]; exact this, this⟩
theorem ne_of (s : ByteArray) (h : ¬ s.size = 0) : ¬ s.toList = [] ∧ s.toList.isEmpty = false := by
  have : ¬ s.toList = [] := by
    rw [Lib.toList_data]
    intro e
    exact h (by rw [← len_str, e]; rfl)
  exact ⟨this, by simp [this]⟩

theorem isRt_long {l : List UInt8} (h : 400 < l.length) : isRt l = false := by
  unfold isRt
  rw [show decide (l.length ≤ 400) = false by simp; omega]
  simp
theorem isRt_zero {l : List UInt8} (h : 1 < l.length) (h0 : l.head? = some 48) : isRt l = false := by
  unfold isRt
  rw [h0]
  simp [h]
theorem isRt_main {l : List UInt8} (h1 : 1 ≤ l.length) (h : l.length ≤ 400) (h0 : ¬ (1 < l.length ∧ l.head? = some 48)) : isRt l = l.all isDg := by
  unfold isRt
  have : (decide (1 < l.length) && l.head? == some 48) = false := by
    by_cases h2 : 1 < l.length
    · simp only [h2, true_and] at h0
      simp [h0]
    · simp [h2]
  rw [this]
  simp [h1, h]

theorem head_of (s : ByteArray) (h : 0 < s.size) : s.data.toList.head? = some s[0] := by
  have h' : 0 < s.data.toList.length := by rw [len_str]; exact h
  rw [List.head?_eq_getElem?, List.getElem?_eq_getElem h']
  rfl
theorem byte48 (c : UInt8) : c = 48 ↔ ((c.toNat : Nat) : Int) = 48 := by
  rw [← UInt8.toNat_inj]
  constructor
  · intro h; rw [h]; rfl
  · intro h
    have : c.toNat = 48 := by omega
    rw [this]; rfl

set_option maxRecDepth 100000 in
theorem right_calls (s : ByteArray) (w : World) (hs : s.size ≤ 140737488355328) :
    Calls Tryz.prog 152 #[.string s] w fun e w' => e = .returned (.bool (isRt s.data.toList)) ∧ Below w.heap.size w w' := by
  by_cases h0 : s.size = 0
  · obtain ⟨h1, h2⟩ := emp_of s h0
    have hf : Hid (isRt s.data.toList = false) := by rw [h2]; exact rfl
    clear h2 h0
    go_enter Tryz.func152, Tryz.ntmps152
    go_wp2
    go_ret
    exact ⟨ret_bool hf.out.symm, Below.refl _ _⟩
  · obtain ⟨h1, h2⟩ := ne_of s h0
    have hlen := len_str s
    have hpos : 0 < s.size := by omega
    have hhd := head_of s hpos
    by_cases h400 : 400 < s.size
    · have hf : Hid (isRt s.data.toList = false) := isRt_long (by rw [hlen]; exact h400)
      clear hhd hlen
      go_enter Tryz.func152, Tryz.ntmps152
      go_wp2
      go_ret
      exact ⟨ret_bool hf.out.symm, Below.refl _ _⟩
    · by_cases h48 : ((s[0].toNat : Nat) : Int) = 48
      · by_cases h1' : 1 < s.size
        · have hf : Hid (isRt s.data.toList = false) := isRt_zero (by rw [hlen]; exact h1') (by rw [hhd, (byte48 _).2 h48])
          have h48' : (((s[0].toNat : Nat) : Int) == 48) = true := by simpa using h48
          clear hhd hlen
          go_enter Tryz.func152, Tryz.ntmps152
          go_wp2
          go_ret
          exact ⟨ret_bool hf.out.symm, Below.refl _ _⟩
        · have hf : Hid (isRt s.data.toList = s.data.toList.all isDg) := isRt_main (by omega) (by omega) (by omega)
          have h48' : (((s[0].toNat : Nat) : Int) == 48) = true := by simpa using h48
          clear hhd hlen
          go_enter Tryz.func152, Tryz.ntmps152
          go_wp2_with (go_at_call 176; refine (trim_digs s _ hs).mono ?_; rintro e w' ⟨rfl, hb⟩)
          go_ret
          exact ⟨ret_bool ((trim_all _).trans hf.out.symm), hb⟩
      · have hf : Hid (isRt s.data.toList = s.data.toList.all isDg) := isRt_main (by omega) (by omega) (by rw [hhd]; simp only [Option.some.injEq, byte48]; omega)
        have h48' : (((s[0].toNat : Nat) : Int) == 48) = false := by simpa using h48
        clear hhd hlen
        go_enter Tryz.func152, Tryz.ntmps152
        go_wp2_with (go_at_call 176; refine (trim_digs s _ hs).mono ?_; rintro e w' ⟨rfl, hb⟩)
        go_ret
        exact ⟨ret_bool ((trim_all _).trans hf.out.symm), hb⟩
end Go.Proofs.YtpjlepkdiaohiaaGreatDoor

/- Plain laws for the document's own reckoning with digits: no program in sight. -/
namespace Go.Proofs.YtpjlepkdiaohiaaGreatDoor
open Go

/-- all digits. -/
def Dgs (l : List UInt8) : Prop := ∀ c ∈ l, isDg c = true
theorem Dgs.nil : Dgs [] := fun _ h => by cases h
theorem Dgs.cons {c : UInt8} {l : List UInt8} (h : isDg c = true) (hl : Dgs l) : Dgs (c :: l) := fun x hx => by
  rcases List.mem_cons.1 hx with rfl | hx
  · exact h
  · exact hl x hx
theorem Dgs.append {a b : List UInt8} (ha : Dgs a) (hb : Dgs b) : Dgs (a ++ b) := fun x hx => by
  rcases List.mem_append.1 hx with hx | hx
  · exact ha x hx
  · exact hb x hx
theorem Dgs.tail {c : UInt8} {l : List UInt8} (h : Dgs (c :: l)) : Dgs l := fun x hx => h x (List.mem_cons_of_mem _ hx)
theorem Dgs.take {l : List UInt8} (h : Dgs l) (k : Nat) : Dgs (l.take k) := fun x hx => h x (List.mem_of_mem_take hx)
theorem Dgs.drop {l : List UInt8} (h : Dgs l) (k : Nat) : Dgs (l.drop k) := fun x hx => h x (List.mem_of_mem_drop hx)
theorem Dgs.dec (u : Nat) : Dgs (Lib.decDigits u) := dec_isDg u
theorem Dgs.rt {l : List UInt8} (h : isRt l = true) : Dgs l := by
  have := ((isRt_iff _).1 h).1
  rw [this]; exact Dgs.dec _
theorem dg_bounds {c : UInt8} (h : isDg c = true) : 48 ≤ c.toNat ∧ c.toNat ≤ 57 := by
  unfold isDg at h; rw [Bool.and_eq_true, decide_eq_true_eq, decide_eq_true_eq] at h; exact h
theorem Dgs.at {l : List UInt8} (h : Dgs l) {k : Nat} (hk : k < l.length) : 48 ≤ (l[k]).toNat ∧ (l[k]).toNat ≤ 57 := dg_bounds (h _ (List.getElem_mem hk))

theorem nv_nil : nv [] = 0 := rfl
theorem nv_cons (c : UInt8) (l : List UInt8) : nv (c :: l) = (c.toNat - 48) * 10 ^ l.length + nv l := by
  have := nv_append [c] l
  rw [List.singleton_append] at this
  rw [this]; simp [nv, nvA_cons, nvA_nil]
theorem nv_bound : ∀ {l : List UInt8}, Dgs l → nv l < 10 ^ l.length
  | [], _ => by simp [nv_nil]
  | c :: l, h => by
    have ih := nv_bound h.tail
    have hc := dg_bounds (h c (by simp))
    rw [nv_cons, List.length_cons, Nat.pow_succ]
    have : (c.toNat - 48) * 10 ^ l.length ≤ 9 * 10 ^ l.length := Nat.mul_le_mul_right _ (by omega)
    omega

/-- without zeros ahead. -/
def trimL : List UInt8 → List UInt8
  | c :: d :: r => if c = 48 then trimL (d :: r) else c :: d :: r
  | l => l
theorem trimL_one (c : UInt8) : trimL [c] = [c] := by unfold trimL; rfl
theorem trimL_zero (d : UInt8) (r : List UInt8) : trimL (48 :: d :: r) = trimL (d :: r) := by rw [trimL, if_pos rfl]
theorem trimL_other {c : UInt8} (h : c ≠ 48) (r : List UInt8) : trimL (c :: r) = c :: r := by
  cases r with
  | nil => exact trimL_one c
  | cons d r => rw [trimL, if_neg h]
/-- the digit at a place from the end on. -/
def dgt (l : List UInt8) (i : Nat) : Nat := if i < l.length then (l[l.length - 1 - i]?.getD 48).toNat - 48 else 0
/-- cells of tens. -/
def tens : List Nat → Nat
  | [] => 0
  | x :: r => x + 10 * tens r
/-- texts of one length, the same up to a place. -/
theorem nv_less {a b : List UInt8} (ha : Dgs a) (hb : Dgs b) (hl : a.length = b.length) {i : Nat} (hi : i < a.length) (ht : a.take i = b.take i) (h : (a[i]).toNat < (b[i]'(by omega)).toNat) : nv a < nv b := by
  have sa : a = a.take i ++ ([a[i]] ++ a.drop (i + 1)) := by rw [List.singleton_append, ← List.drop_eq_getElem_cons hi, List.take_append_drop]
  have sb : b = b.take i ++ ([b[i]'(by omega)] ++ b.drop (i + 1)) := by rw [List.singleton_append, ← List.drop_eq_getElem_cons (by omega), List.take_append_drop]
  have ba := nv_bound (ha.drop (i + 1))
  have ca := ha.at hi
  have cb := hb.at (k := i) (by omega)
  rw [congrArg nv sa, congrArg nv sb]
  rw [nv_append, nv_append, nv_append, nv_append, ht]
  simp only [List.length_append, List.length_drop, List.length_singleton] at ba ⊢
  rw [hl] at ba ⊢
  generalize nv (List.take i b) = p
  generalize nv (List.drop (i + 1) a) = q at *
  generalize nv (List.drop (i + 1) b) = s
  rw [nv_cons, nv_cons, List.length_nil, Nat.pow_zero, Nat.mul_one, Nat.mul_one, nv_nil]
  simp only [Nat.add_zero]
  generalize a[i].toNat = x at *
  generalize (b[i]'(by omega)).toNat = y at *
  have : (x - 48 + 1) * 10 ^ (b.length - (i + 1)) ≤ (y - 48) * 10 ^ (b.length - (i + 1)) := Nat.mul_le_mul_right _ (by omega)
  rw [Nat.add_mul, Nat.one_mul] at this
  omega
/-- the shorter one is less. -/
theorem nv_shorter {a b : List UInt8} (ha : isRt a = true) (hb : isRt b = true) (hl : a.length < b.length) : nv a < nv b := by
  have h1 := nv_bound (Dgs.rt ha)
  have hb' := (isRt_iff _).1 hb
  have hge : 10 ^ (b.length - 1) ≤ nv b := by
    have key : ∀ k n, n < 10 ^ k → (Lib.decDigits n).length ≤ max k 1 := by
      intro k
      induction k with
      | zero => intro n h; rw [show n = 0 by simpa using h, dec_small (by omega)]; simp
      | succ k ih =>
        intro n h
        by_cases h10 : n < 10
        · rw [dec_small h10]; simp; try omega
        · have := ih (n / 10) (by rw [Nat.pow_succ] at h; omega)
          rw [dec_big h10, List.length_append, List.length_singleton]
          cases k with
          | zero => simp at h; omega
          | succ k => omega
    by_cases hge : 10 ^ (b.length - 1) ≤ nv b
    · exact hge
    · have := key (b.length - 1) (nv b) (by omega)
      rw [← hb'.1] at this
      have ha0 : 1 ≤ a.length := by
        have := dec_ne_nil (nv a)
        rw [← ((isRt_iff _).1 ha).1] at this
        exact List.length_pos_iff.2 this
      omega
  exact Nat.lt_of_lt_of_le h1 (Nat.le_trans (Nat.pow_le_pow_right (by omega) (by omega)) hge)
theorem rdig_lt : ∀ (k n : Nat), n < 10 ^ (k + 1) → Lib.nDigits n ≤ k + 1
  | 0, n, h => by rw [← Lib.decDigits_length, dec_small (by simpa using h)]; simp
  | k + 1, n, h => by
    by_cases h2 : n < 10
    · rw [← Lib.decDigits_length, dec_small h2]; simp
    · have := rdig_lt k (n / 10) (by rw [Nat.pow_succ] at h; exact Nat.div_lt_of_lt_mul (by rw [Nat.mul_comm]; exact h))
      rw [← Lib.decDigits_length] at this ⊢
      rw [dec_big h2, List.length_append]
      simpa using this
theorem rt_len {l : List UInt8} (h : isRt l = true) : 1 ≤ l.length ∧ l.length ≤ 400 := by
  have g := (isRt_iff _).1 h
  have := dec_ne_nil (nv l)
  rw [← g.1] at this
  exact ⟨List.length_pos_iff.2 this, g.2⟩
end Go.Proofs.YtpjlepkdiaohiaaGreatDoor

/- The document's own naturals (targumref01): Right, Trim, digit, ends, Of: walked. -/
namespace Go.Proofs.YtpjlepkdiaohiaaGreatDoor
open Go.RowKit
attribute [local go_sem] Oper.semAt_some

theorem same_symm {f : FuncId} {args : Array Value} {w : World} {E : Ending} (h : Calls Tryz.prog f args w fun e w' => e = E ∧ w' = w) : Calls Tryz.prog f args w fun e w' => e = E ∧ w = w' :=
  h.mono fun _ _ h => ⟨h.1, h.2.symm⟩
theorem isRt_no {l : List UInt8} (h : l = [] ∨ 400 < l.length ∨ (1 < l.length ∧ l.head? = some 48) ∨ ∃ c ∈ l, isDg c = false) : isRt l = false := by
  cases e : isRt l with
  | false => rfl
  | true =>
    exfalso
    simp only [isRt, Bool.and_eq_true, decide_eq_true_eq, Bool.not_eq_true', List.all_eq_true] at e
    obtain ⟨⟨⟨h1, h2⟩, h3⟩, h4⟩ := e
    rcases h with rfl | h | ⟨h, h'⟩ | ⟨c, hc, h⟩
    · simp at h1
    · omega
    · rw [h'] at h3; simp [h] at h3
    · rw [h4 c hc] at h; cases h
theorem isRt_yes {l : List UInt8} (h1 : l ≠ []) (h2 : l.length ≤ 400) (h3 : 1 < l.length → l.head? ≠ some 48) (h4 : Dgs l) : isRt l = true := by
  simp only [isRt, Bool.and_eq_true, decide_eq_true_eq, Bool.not_eq_true', List.all_eq_true]
  refine ⟨⟨⟨List.length_pos_iff.2 h1, h2⟩, ?_⟩, h4⟩
  by_cases h : 1 < l.length
  · simp [h3 h]
  · simp [h]

theorem txs_len (s : ByteArray) : (tx s).length = s.size := len_str s
theorem txs_at (s : ByteArray) {k : Nat} (h : k < s.size) : (tx s)[k]'(by rw [txs_len]; exact h) = s[k] := rfl
theorem txs_take (s : ByteArray) {k : Nat} (h : k < s.size) : (tx s).take (k + 1) = (tx s).take k ++ [s[k]] := by
  rw [List.take_succ_eq_append_getElem (by rw [txs_len]; exact h)]; rfl
theorem isDg_of {c : UInt8} (h : 48 ≤ c.toNat ∧ c.toNat ≤ 57) : isDg c = true := by unfold isDg; simp; omega
theorem isDg_not {c : UInt8} (h : c.toNat < 48 ∨ 57 < c.toNat) : isDg c = false := by
  cases e : isDg c with
  | false => rfl
  | true => have := dg_bounds e; omega

set_option maxRecDepth 100000 in
set_option maxHeartbeats 1000000 in
theorem rRight_calls (s : ByteArray) (hs : s.size ≤ 140737488355328) (w : World) :
    Calls Tryz.prog 77 #[.string s] w fun e w' => e = .returned (.bool (isRt (tx s))) ∧ w' = w := by
  have hl := txs_len s
  by_cases h0 : s.size = 0
  · have hr := hid (isRt_no (l := tx s) (.inl (List.eq_nil_of_length_eq_zero (by omega))))
    have h0i : (s.size : Int) < 1 := by omega
    clear h0 hl
    go_enter Tryz.func77, Tryz.ntmps77
    go_wp2
    go_ret
    exact ⟨ret_bool hr.out.symm, rfl⟩
  by_cases h4 : 400 < s.size
  · have hr := hid (isRt_no (l := tx s) (.inr (.inl (by omega))))
    have h0i : ¬ (s.size : Int) < 1 := by omega
    clear h0 hl
    go_enter Tryz.func77, Tryz.ntmps77
    go_wp2
    go_ret
    exact ⟨ret_bool hr.out.symm, rfl⟩
  have hpos : 0 < s.size := by omega
  have hloop : ∀ (hz : 1 < s.size → s[0] ≠ 48) , (1 < s.size ∨ s.size = 1) → Calls Tryz.prog 77 #[.string s] w fun e w' => e = .returned (.bool (isRt (tx s))) ∧ w' = w := by
    intro hz hsz
    have hh : 1 < s.size → (tx s).head? ≠ some 48 := fun h e => hz h (Option.some.inj ((head_of s hpos).symm.trans e))
    have HH := hid (And.intro hh hl)
    have h1i : ¬ (s.size : Int) < 1 := by omega
    have h4i : ¬ (400 : Int) < (s.size : Int) := by omega
    have hb0 : 1 < s.size → (((s[0].toNat : Nat) : Int) == 48) = false := fun h => by
      rw [beq_eq_false_iff_ne]; intro e; exact hz h ((byte48 _).2 e)
    clear hh hz hl
    have hsz2 : ((((s[0].toNat : Nat) : Int) == 48) = false ∧ 1 < s.size) ∨ (s.size : Int) ≤ 1 := by
      rcases hsz with hsz | hsz
      · exact .inl ⟨hb0 hsz, hsz⟩
      · exact .inr (by omega)
    clear hb0 hsz
    rcases hsz2 with ⟨hb0, hsz⟩ | hsz
    all_goals (
      go_enter Tryz.func77, Tryz.ntmps77
      go_wp2
      go_loop [3] (fun i => ∃ k : Nat, i = .int .i64 k ∧ k ≤ s.size ∧ Dgs ((tx s).take k)) (fun i => s.size - (intOf i).toNat)
      case atStart => exact ⟨0, rfl, Nat.zero_le _, by rw [List.take_zero]; exact Dgs.nil⟩
      case round =>
        obtain ⟨k, rfl, hk, hD⟩ := hrel
        obtain ⟨hh, hl⟩ := id HH.out
        by_cases hlt : k < s.size
        · obtain ⟨ch, hch⟩ : ∃ ch, s[k] = ch := ⟨_, rfl⟩
          have htk := txs_take s hlt
          rw [hch] at htk
          have hcm : ch ∈ tx s := by rw [← hch]; exact List.getElem_mem (l := tx s) (by rw [txs_len]; exact hlt)
          by_cases hd : 48 ≤ ch.toNat ∧ ch.toNat ≤ 57
          · have HD := hid (show Dgs ((tx s).take (k + 1)) by rw [htk]; exact hD.append (Dgs.cons (isDg_of hd) Dgs.nil))
            obtain ⟨hd1, hd2⟩ := hd
            have e1 : (48 : Int) ≤ (ch.toNat : Int) := by omega
            have e2 : (ch.toNat : Int) ≤ 57 := by omega
            clear htk hcm hD hh hl
            go_wp2
            go_round
            case rel => exact ⟨k + 1, by go_num, hlt, HD.out⟩
            case measure => simp [intOf]; omega
          · have HN := hid (isRt_no (l := tx s) (.inr (.inr (.inr ⟨ch, hcm, isDg_not (by omega)⟩))))
            have hcase : (ch.toNat : Int) < 48 ∨ (48 ≤ (ch.toNat : Int) ∧ 57 < (ch.toNat : Int)) := by omega
            clear htk hcm hD hh hl hd
            rcases hcase with e1 | ⟨e1, e2⟩
            all_goals (
              go_wp2
              go_ret
              exact ⟨ret_bool HN.out.symm, rfl⟩)
        · rw [List.take_of_length_le (by omega)] at hD
          have HN := hid (isRt_yes (l := tx s) (by intro e; rw [e] at hl; simp at hl; omega) (by omega) (fun h => hh (by omega)) hD)
          clear hD hh hl
          go_wp2
          go_ret
          exact ⟨ret_bool HN.out.symm, rfl⟩)
  by_cases h1 : 1 < s.size
  · by_cases hz : s[0] = 48
    · have hr := hid (isRt_no (l := tx s) (.inr (.inr (.inl ⟨by omega, by rw [show (tx s).head? = some s[0] from head_of s hpos, hz]⟩))))
      have hb0 : (((s[0].toNat : Nat) : Int) == 48) = true := by rw [beq_iff_eq]; exact (byte48 _).1 hz
      have h1i : ¬ (s.size : Int) < 1 := by omega
      have h4i : ¬ (400 : Int) < (s.size : Int) := by omega
      clear hz h0 hl hloop
      go_enter Tryz.func77, Tryz.ntmps77
      go_wp2
      go_ret
      exact ⟨ret_bool hr.out.symm, rfl⟩
    · exact hloop (fun _ => hz) (.inl h1)
  · exact hloop (fun h => absurd h h1) (.inr (by omega))

def sizeV : Value → Nat
  | .string s => s.size
  | _ => 0

set_option maxRecDepth 100000 in
set_option maxHeartbeats 1000000 in
theorem rTrim_calls (s : ByteArray) (_hs : s.size ≤ 140737488355328) (w : World) :
    Calls Tryz.prog 48 #[.string s] w fun e w' => e = .returned (.string ⟨(trimL (tx s)).toArray⟩) ∧ w' = w := by
  go_enter Tryz.func48, Tryz.ntmps48
  go_wp2
  go_loop [0] (fun v => ∃ t : ByteArray, v = .string t ∧ t.size ≤ s.size ∧ trimL (tx t) = trimL (tx s)) (fun v => sizeV v)
  case atStart => exact ⟨s, rfl, Nat.le_refl _, rfl⟩
  case round =>
    obtain ⟨t, rfl, hts, ht⟩ := hrel
    have hl := txs_len t
    have HT := hid ht
    clear ht
    by_cases h1 : 1 < t.size
    · have hpos : 0 < t.size := by omega
      have hhd := head_of t hpos
      by_cases hz : t[0] = 48
      · have hb0 : (((t[0].toNat : Nat) : Int) == 48) = true := by rw [beq_iff_eq]; exact (byte48 _).1 hz
        have hx : tx (t.extract 1 t.size) = (tx t).drop 1 := by unfold tx; rw [Lib.extract_data, List.take_of_length_le (by rw [List.length_drop, len_str]; omega)]
        have hsz : (t.extract 1 t.size).size = t.size - 1 := by rw [← txs_len, hx, List.length_drop, txs_len]
        have hstep : trimL (tx (t.extract 1 t.size)) = trimL (tx t) := by
          rw [hx]
          rw [show t.data.toList = tx t from rfl, hz] at hhd
          match hm : tx t, hl, hhd with
          | [], hl, _ => rw [List.length_nil] at hl; omega
          | [_], hl, _ => rw [List.length_singleton] at hl; omega
          | c :: d :: r, _, hhd =>
            rw [List.head?_cons] at hhd
            rw [Option.some.inj hhd, trimL_zero]; rfl
        have HS := hid (And.intro hstep hsz)
        clear hstep hsz hx hz hhd hl
        go_wp2
        go_round
        case rel => exact ⟨_, rfl, by rw [HS.out.2]; omega, HS.out.1.trans HT.out⟩
        case measure => simp only [sizeV]; rw [HS.out.2]; omega
      · have hb0 : (((t[0].toNat : Nat) : Int) == 48) = false := by rw [beq_eq_false_iff_ne]; intro e; exact hz ((byte48 _).2 e)
        have hstep : trimL (tx t) = tx t := by
          rw [show t.data.toList = tx t from rfl] at hhd
          match hm : tx t, hhd with
          | [], h => cases h
          | c :: r, h => rw [List.head?_cons] at h; exact trimL_other (by rw [Option.some.inj h]; exact hz) r
        have HS := hid hstep
        clear hstep hz hhd hl
        go_wp2
        go_ret
        exact ⟨ret_str (by rw [← HT.out, HS.out]; exact (str_eq t).symm), rfl⟩
    · have hstep : trimL (tx t) = tx t := by
        match hm : tx t, hl with
        | [], _ => rfl
        | [c], _ => exact trimL_one c
        | c :: d :: r, h => simp at h; omega
      have HS := hid hstep
      clear hstep hl
      go_wp2
      go_ret
      exact ⟨ret_str (by rw [← HT.out, HS.out]; exact (str_eq t).symm), rfl⟩

end Go.Proofs.YtpjlepkdiaohiaaGreatDoor

/- The document's own naturals (targumref01): ends, Of: walked. -/
namespace Go.Proofs.YtpjlepkdiaohiaaGreatDoor
open Go.RowKit
attribute [local go_sem] Oper.semAt_some

/-- a text of one byte, made of a new array. -/
theorem conv_one (w : World) (x : Nat) (_hx : x < 256) (z : Int) (hz : z = (x : Int)) :
    (convert 41 9 (.slice (some ⟨w.heap.size, 0, none⟩) 1 1)).run Tryz.prog (w.alloc (.cells #[.int .u8 z] 5)) = .ok (.string ⟨#[UInt8.ofNat x]⟩) (w.alloc (.cells #[.int .u8 z] 5)) := by
  subst hz
  have hc : (w.alloc (.cells #[.int .u8 (x : Nat)] 5)).cell? ⟨w.heap.size, 0, none⟩ = some (.int .u8 (x : Nat)) := by
    rw [World.cell?_alloc_new]; rfl
  have h := run_convert_bytes_arg (P := Tryz.prog) (w.alloc (.cells #[.int .u8 (x : Nat)] 5)) 41 5 (by kernel_rfl) (by kernel_rfl) w.heap.size 0 1 1 [(x : Int)] (by rfl)
    (fun i hi => by obtain rfl : i = 0 := by omega
                    exact hc) 9 (by kernel_rfl)
  rw [h]
  simp [strOfNums]

theorem str_snoc (c : UInt8) (l : List UInt8) : (⟨l.toArray⟩ : ByteArray) ++ ⟨#[c]⟩ = ⟨(l ++ [c]).toArray⟩ := by
  apply ByteArray.ext
  rw [ByteArray.data_append]
  simp

set_option maxRecDepth 100000 in
set_option maxHeartbeats 1000000 in
theorem rOf_calls : ∀ (n : Nat), n < 18446744073709551616 → ∀ (w : World),
    Calls Tryz.prog 35 #[.int .u64 n] w fun e w' => e = .returned (.string ⟨(Lib.decDigits n).toArray⟩) ∧ Below w.heap.size w w' := by
  intro n
  induction n using Nat.strongRecOn with
  | _ n ih =>
    intro hn w
    have hcv := conv_one w (48 + n % 10) (by omega) (48 + (n : Int) % 10) (by omega)
    obtain ⟨c, hc⟩ : ∃ c, UInt8.ofNat (48 + n % 10) = c := ⟨_, rfl⟩
    rw [hc] at hcv
    by_cases h : n < 10
    · have HD := hid (show Lib.decDigits n = [c] by rw [dec_small h, ← hc]; congr 2; omega)
      clear ih hc
      go_enter Tryz.func35, Tryz.ntmps35
      go_wp2
      go_ret
      exact ⟨ret_str (by rw [HD.out]), below_alloc w _⟩
    · have HD := hid (show Lib.decDigits n = Lib.decDigits (n / 10) ++ [c] by rw [dec_big h, ← hc])
      have hrec := ih (n / 10) (by omega) (by omega) (w.alloc (.cells #[.int .u8 (48 + (n : Int) % 10)] 5))
      have hlen : (Lib.decDigits (n / 10)).length ≤ 20 := by
        rw [Lib.decDigits_length]
        have := Lib.numDigits_eq (n / 10) (by omega) (by omega)
        split at this <;> omega
      obtain ⟨l, hl⟩ : ∃ l, Lib.decDigits (n / 10) = l := ⟨_, rfl⟩
      rw [hl] at hrec HD hlen
      have hge : (10 : Int) ≤ (n : Int) := by omega
      clear ih hc hl h
      go_enter Tryz.func35, Tryz.ntmps35
      go_wp2_with (go_at_call 35; refine hrec.mono ?_; rintro e w1 ⟨rfl, hb⟩)
      go_ret
      refine ⟨ret_str (by rw [HD.out, ← str_snoc]), (below_alloc w _).trans (hb.mono (by simp))⟩
end Go.Proofs.YtpjlepkdiaohiaaGreatDoor

/- Package nat: Of, To (apart from the rest of the package). -/
namespace Go.Proofs.YtpjlepkdiaohiaaGreatDoor
open Go.RowKit Go.Shelf
attribute [local go_sem] Oper.semAt_some

theorem natOf_calls (n : Nat) (hn : n < 18446744073709551616) (w : World) (hT : Tabs w) :
    Calls Tryz.prog 144 #[.int .u64 n] w fun e w' => e = .returned (.string ⟨(Lib.decDigits n).toArray⟩) ∧ Below w.heap.size w w' := by
  have h := formatUint n hn w hT
  go_enter Tryz.func144, Tryz.ntmps144
  go_wp2_with (go_at_call 171; refine h.mono ?_; rintro e w' ⟨rfl, hb⟩)
  go_ret
  exact ⟨rfl, hb⟩

def toN (s : ByteArray) : Nat := if isRt (tx s) && decide (nv (tx s) < 18446744073709551616) then nv (tx s) else 0
def toB (s : ByteArray) : Bool := isRt (tx s) && decide (nv (tx s) < 18446744073709551616)

set_option maxRecDepth 100000 in
theorem natTo_calls (s : ByteArray) (hs : s.size ≤ 140737488355328) (w : World) (hT : Tabs w) :
    Calls Tryz.prog 138 #[.string s] w fun e w' => e = .returned (.tuple #[.int .u64 (toN s), .bool (toB s)]) ∧ Below w.heap.size w w' := by
  have hright := right_calls s w hs
  cases hr : isRt s.data.toList with
  | false =>
    have hS : Hid ((0 : Nat) = toN s ∧ false = toB s) := by unfold toN toB tx; rw [hr]; exact ⟨rfl, rfl⟩
    rw [hr] at hright
    clear hr
    go_enter Tryz.func138, Tryz.ntmps138
    go_wp2_with (go_at_call 152; refine hright.mono ?_; rintro e w' ⟨rfl, hb⟩)
    go_ret2
    exact ⟨by rw [← hS.out.1, ← hS.out.2]; rfl, hb⟩
  | true =>
    rw [hr] at hright
    have hrt := (isRt_iff _).1 hr
    have hne : s.data.toList ≠ [] := by rw [hrt.1]; exact dec_ne_nil _
    have hdg : ∀ c ∈ s.data.toList, isDg c = true := fun c hc => by rw [hrt.1] at hc; exact dec_isDg _ c hc
    have hp := parse64 hne hdg
    by_cases hlt : nv s.data.toList < 18446744073709551616
    · rw [if_pos hlt] at hp
      have hS : Hid (nv s.data.toList = toN s ∧ true = toB s) := by unfold toN toB tx; rw [hr, decide_eq_true hlt]; exact ⟨rfl, rfl⟩
      obtain ⟨n, hn⟩ : ∃ n, nv s.data.toList = n := ⟨_, rfl⟩
      rw [hn] at hp hS
      clear hr hrt hne hdg hlt hn
      go_enter Tryz.func138, Tryz.ntmps138
      go_wp2_with (first
        | (go_at_call 152; refine hright.mono ?_; rintro e w' ⟨rfl, hb⟩)
        | (go_at_call 160; refine (Tryz.strconv_ParseUint_10_at64_ok s (by omega) n hp _).mono ?_; rintro e w2 ⟨rfl, hw2⟩))
      go_ret2
      refine ⟨by rw [← hS.out.1, ← hS.out.2]; rfl, hb.trans ?_⟩
      rcases hw2 with rfl | rfl
      · exact (Below.refl _ _).mono hb.size
      · exact (Lib.bytesWorld_below _ _ s).mono hb.size
    · rw [if_neg hlt] at hp
      have hS : Hid ((0 : Nat) = toN s ∧ false = toB s) := by unfold toN toB tx; rw [hr, decide_eq_false hlt]; exact ⟨rfl, rfl⟩
      clear hr hrt hne hdg hlt
      obtain ⟨tp, p, hvar⟩ := hT.2
      go_enter Tryz.func138, Tryz.ntmps138
      go_wp2_with (first
        | (go_at_call 152; refine hright.mono ?_; rintro e w' ⟨rfl, hb⟩)
        | (go_at_call 160; refine (Tryz.strconv_ParseUint_10_at64_range_var s (by omega) hp tp p _ (var_kept range_glob hvar hb)).mono ?_; rintro e w2 ⟨N, rfl, _, _, hw2⟩))
      go_ret2
      exact ⟨by rw [← hS.out.1, ← hS.out.2]; rfl, hb.trans (hw2.mono hb.size)⟩
end Go.Proofs.YtpjlepkdiaohiaaGreatDoor

/- A strings.Builder of the call's own: what it holds, as a text; strconv.Itoa. -/
namespace Go.Proofs.YtpjlepkdiaohiaaGreatDoor
open Go.RowKit

theorem tx_app (u v : ByteArray) : tx (u ++ v) = tx u ++ tx v := by unfold tx; rw [ByteArray.data_append, Array.toList_append]
theorem size_app (u v : ByteArray) : (u ++ v).size = u.size + v.size := by rw [← len_str, ← len_str u, ← len_str v, show (u ++ v).data.toList = tx (u ++ v) from rfl, tx_app, List.length_append]; rfl

def Bld (W : World) (b : Nat) (l : List UInt8) : Prop := Lib.IsBuilderF 60 5 b b (Lib.byteCells l) W
theorem Bld.new (W : World) : Bld (W.alloc (.cells #[.pointer none, .slice none 0 0] 60)) W.heap.size [] := builder_new W _ _
theorem Bld.below {W W' : World} {b : Nat} {l : List UInt8} (h : Bld W b l) (hb : Below W.heap.size W W') : Bld W' b l := (CellsKept.below hb).builder h

theorem repeat_calls (c : Nat) (hc : c ≤ 1000000) (w : World) :
    Calls Tryz.prog 139 #[.string ⟨#[48]⟩, .int .i64 c] w fun e w' => e = .returned (.string (B (List.replicate c 48))) ∧ Below w.heap.size w w' :=
  (Tryz.strings_Repeat ⟨#[48]⟩ c w (by omega) (by show 1 * c ≤ _; omega)).mono fun e w' ⟨h1, h2⟩ => ⟨by
    rw [h1]
    have : ∀ k, Lib.repeatL [48] k = List.replicate k (48 : UInt8) := fun k => by
      induction k with
      | zero => rfl
      | succ k ih => rw [Lib.repeatL, ih]; rfl
    exact ret_str (congrArg B (this c)), h2⟩
end Go.Proofs.YtpjlepkdiaohiaaGreatDoor

