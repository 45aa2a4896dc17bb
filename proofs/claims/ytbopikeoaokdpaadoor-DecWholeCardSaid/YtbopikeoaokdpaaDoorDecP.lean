/- Plain: what dec.Make makes; which texts are digits alone. -/
import Derived.Test.YtbopikeoaokdpaaDoorDecA
import Derived.Shelf.GgClosure.StringsIndexFunc
namespace Go.Proofs.YtbopikeoaokdpaaDoor
open Go Go.RowKit

def D0 : D := ⟨false, [], 0⟩
def Dz : D := ⟨false, [48], 0⟩
def stripL (l : List UInt8) : List UInt8 := l.dropWhile (· == 48)
def stripR (l : List UInt8) : List UInt8 := (l.reverse.dropWhile (· == 48)).reverse
def mkOk (l : List UInt8) (x : Int) : Bool := decide (l ≠ []) && (decide (l.length ≤ 400) && ((decide (-1000 ≤ x) && decide (x ≤ 1000)) && l.all isDg))
def mkD (n : Bool) (l : List UInt8) (x : Int) : D := ⟨n, stripR (stripL l), x + (stripL l).length - (stripR (stripL l)).length⟩
/-- what is made. -/
def mk (n : Bool) (l : List UInt8) (x : Int) : D × Int :=
  if mkOk l x then (if stripL l = [] then (Dz, 0) else if decR (mkD n l x) then (mkD n l x, 0) else (D0, 40)) else (D0, 40)

theorem stripR_le (l : List UInt8) : (stripR l).length ≤ l.length := by
  unfold stripR
  rw [List.length_reverse]
  have := (List.dropWhile_suffix (l := l.reverse) (· == 48)).length_le
  rwa [List.length_reverse] at this
theorem stripL_le (l : List UInt8) : (stripL l).length ≤ l.length := (List.dropWhile_suffix (l := l) (· == 48)).length_le

theorem dgN_isDg (c : UInt8) : dgN c.toNat = isDg c := rfl

/-- where the first rune stands that is no digit. -/
theorem idx_dg (s : ByteArray) : ∀ (f pos : Nat), s.size ≤ pos + f →
    (((tx s).drop pos).all isDg = true ∧ Lib.idxFuncFrom (fun x => !dgN x) true s f pos = -1) ∨ (((tx s).drop pos).all isDg = false ∧ 0 ≤ Lib.idxFuncFrom (fun x => !dgN x) true s f pos) := by
  intro f
  induction f with
  | zero =>
    intro pos h
    refine .inl ⟨?_, rfl⟩
    rw [List.drop_of_length_le (by rw [txs_len]; omega)]; rfl
  | succ f ih =>
    intro pos h
    by_cases hp : pos < s.size
    · have hd : (tx s).drop pos = s[pos] :: (tx s).drop (pos + 1) := by
        rw [List.drop_eq_getElem_cons (by rw [txs_len]; exact hp)]; rfl
      unfold Lib.idxFuncFrom
      rw [if_pos hp, hd, List.all_cons]
      by_cases ha : (s[pos]'hp).toNat < 128
      · rw [decode_ascii s pos hp ha]
        cases hg : isDg (s[pos]'hp) with
        | false =>
          refine .inr ⟨Bool.false_and _, ?_⟩
          rw [if_pos (by show (!dgN _) = true; rw [dgN_isDg, hg]; rfl)]
          omega
        | true =>
          rw [if_neg (by show ¬ (!dgN _) = true; rw [dgN_isDg, hg]; decide), Bool.true_and]
          exact ih (pos + 1) (by omega)
      · have hh := decode_high s pos hp (by omega)
        have hg : isDg (s[pos]'hp) = false := isDg_not (by omega)
        rw [hg]
        refine .inr ⟨Bool.false_and _, ?_⟩
        rw [if_pos (by show (!dgN _) = true; unfold dgN; rw [decide_eq_false (p := (Utf8.decode s pos).1 ≤ 57) (by have := hh.1; omega), Bool.and_false]; rfl)]
        omega
    · refine .inl ⟨by rw [List.drop_of_length_le (by rw [txs_len]; omega)]; rfl, Lib.idxFuncFrom_end _ _ _ _ _ hp⟩
theorem idx_dg0 (s : ByteArray) : ((tx s).all isDg = true ∧ Lib.idxFunc (fun x => !dgN x) true s = -1) ∨ ((tx s).all isDg = false ∧ 0 ≤ Lib.idxFunc (fun x => !dgN x) true s) := by
  have := idx_dg s s.size 0 (by omega)
  rwa [List.drop_zero] at this
end Go.Proofs.YtbopikeoaokdpaaDoor
