/- Package dec: Format: walked. -/
import Derived.Test.YtbopikeoaokdpaaDoorDecB
import Derived.Test.YtbopikeoaokdpaaDoorBld
namespace Go.Proofs.YtbopikeoaokdpaaDoor
open Go.RowKit
attribute [local go_sem] Oper.semAt_some

/-- a right decimal's plain writing, without its sign. -/
def fmtB (d : D) : List UInt8 :=
  if decide (-20 ≤ d.ex) && decide (d.ex ≤ 20) then
    (if 0 ≤ d.ex then d.dg ++ List.replicate d.ex.toNat 48
     else if 0 < (d.dg.length : Int) + d.ex then d.dg.take ((d.dg.length : Int) + d.ex).toNat ++ [46] ++ d.dg.drop ((d.dg.length : Int) + d.ex).toNat
     else [48, 46] ++ List.replicate (-((d.dg.length : Int) + d.ex)).toNat 48 ++ d.dg)
  else d.dg ++ [101] ++ Lib.itoa d.ex
def fmtL (d : D) : List UInt8 := if decR d then (if d.neg then [45] else []) ++ fmtB d else []
def fmtE (d : D) : Int := if decR d then 0 else 40

theorem decR_bounds {d : D} (h : decR d = true) : d.dg.length ≤ 100 ∧ 1 ≤ d.dg.length ∧ -100 ≤ d.ex ∧ d.ex ≤ 100 := by
  unfold decR at h
  split at h
  · rename_i h48
    rw [Bool.and_eq_true, decide_eq_true_eq] at h
    rw [h48]
    simp
    omega
  · rw [Bool.and_eq_true, Bool.and_eq_true, Bool.and_eq_true, Bool.and_eq_true, decide_eq_true_eq, decide_eq_true_eq, decide_eq_true_eq] at h
    exact ⟨h.2.1, (rt_len h.1).1, h.2.2.1.1, h.2.2.1.2⟩

theorem itoa_len (n : Int) (h : -1000 ≤ n ∧ n ≤ 1000) : (Lib.itoa n).length ≤ 10 := by
  unfold Lib.itoa
  split
  · rw [List.length_cons, Lib.decDigits_length]; have := rdig_lt 3 n.natAbs (by omega); omega
  · rw [Lib.decDigits_length]; have := rdig_lt 3 n.toNat (by omega); omega

set_option maxRecDepth 100000 in
set_option maxHeartbeats 4000000 in
theorem format_no (n : Bool) (s : ByteArray) (x : Int) (hs : s.size ≤ 140737488355328) (w : World) (hno : decR ⟨n, tx s, x⟩ = false) :
    Calls Tryd.prog 13 #[.agg #[.bool n, .string s, .int .i64 x]] w fun e w' => e = .returned (.tuple #[.string ⟨#[]⟩, .int .i64 40]) ∧ Below w.heap.size w w' := by
  have hright := fun W => decRight_calls n s x hs W
  rw [hno] at hright
  have hC := Cls.new w 24 [.bool n, .string s, .int .i64 x]
  have hA := below_alloc w (.cells #[.bool n, .string s, .int .i64 x] 24)
  clear hno
  go_enter Tryd.func13, Tryd.ntmps13
  go_wp2_with (go_at_call 14; refine (hright _).mono ?_; rintro e w1 ⟨rfl, hb1⟩)
  go_ret2
  exact ⟨rfl, hA.trans (hb1.mono hA.size)⟩
end Go.Proofs.YtbopikeoaokdpaaDoor
