/- Package nat: Of, To (apart from the rest of the package). -/
import Derived.Test.YtbopikeoaokdpaaDoorStd
namespace Go.Proofs.YtbopikeoaokdpaaDoor
open Go.RowKit Go.Shelf
attribute [local go_sem] Oper.semAt_some

theorem natOf_calls (n : Nat) (hn : n < 18446744073709551616) (w : World) (hT : Tabs w) :
    Calls Tryd.prog 40 #[.int .u64 n] w fun e w' => e = .returned (.string ⟨(Lib.decDigits n).toArray⟩) ∧ Below w.heap.size w w' := by
  have h := formatUint n hn w hT
  go_enter Tryd.func40, Tryd.ntmps40
  go_wp2_with (go_at_call 62; refine h.mono ?_; rintro e w' ⟨rfl, hb⟩)
  go_ret
  exact ⟨rfl, hb⟩

def toN (s : ByteArray) : Nat := if isRt (tx s) && decide (nv (tx s) < 18446744073709551616) then nv (tx s) else 0
def toB (s : ByteArray) : Bool := isRt (tx s) && decide (nv (tx s) < 18446744073709551616)

set_option maxRecDepth 100000 in
theorem natTo_calls (s : ByteArray) (hs : s.size ≤ 140737488355328) (w : World) (hT : Tabs w) :
    Calls Tryd.prog 41 #[.string s] w fun e w' => e = .returned (.tuple #[.int .u64 (toN s), .bool (toB s)]) ∧ Below w.heap.size w w' := by
  have hright := right_calls s w hs
  cases hr : isRt s.data.toList with
  | false =>
    have hS : Hid ((0 : Nat) = toN s ∧ false = toB s) := by unfold toN toB tx; rw [hr]; exact ⟨rfl, rfl⟩
    rw [hr] at hright
    clear hr
    go_enter Tryd.func41, Tryd.ntmps41
    go_wp2_with (go_at_call 33; refine hright.mono ?_; rintro e w' ⟨rfl, hb⟩)
    go_ret2
    exact ⟨by rw [← hS.out.1, ← hS.out.2]; rfl, hb⟩
  | true =>
    rw [hr] at hright
    have hrt := (isRt_iff _).1 hr
    have hne : s.data.toList ≠ [] := by rw [hrt.1]; exact dec_ne_nil _
    have hdg : ∀ c ∈ s.data.toList, isDg c = true := fun c hc => by rw [hrt.1] at hc; exact dec_isDg _ c hc
    have hp := parse64 hne hdg
    by_cases hlt : nv s.data.toList < 18446744073709551616
    · rw [if_pos hlt] at hp
      have hS : Hid (nv s.data.toList = toN s ∧ true = toB s) := by unfold toN toB tx; rw [hr, decide_eq_true hlt]; exact ⟨rfl, rfl⟩
      obtain ⟨n, hn⟩ : ∃ n, nv s.data.toList = n := ⟨_, rfl⟩
      rw [hn] at hp hS
      clear hr hrt hne hdg hlt hn
      go_enter Tryd.func41, Tryd.ntmps41
      go_wp2_with (first
        | (go_at_call 33; refine hright.mono ?_; rintro e w' ⟨rfl, hb⟩)
        | (go_at_call 63; refine (Tryd.strconv_ParseUint_10_at64_ok s (by omega) n hp _).mono ?_; rintro e w2 ⟨rfl, hw2⟩))
      go_ret2
      refine ⟨by rw [← hS.out.1, ← hS.out.2]; rfl, hb.trans ?_⟩
      rcases hw2 with rfl | rfl
      · exact (Below.refl _ _).mono hb.size
      · exact (Lib.bytesWorld_below _ _ s).mono hb.size
    · rw [if_neg hlt] at hp
      have hS : Hid ((0 : Nat) = toN s ∧ false = toB s) := by unfold toN toB tx; rw [hr, decide_eq_false hlt]; exact ⟨rfl, rfl⟩
      clear hr hrt hne hdg hlt
      obtain ⟨tp, p, hvar⟩ := hT.2
      go_enter Tryd.func41, Tryd.ntmps41
      go_wp2_with (first
        | (go_at_call 33; refine hright.mono ?_; rintro e w' ⟨rfl, hb⟩)
        | (go_at_call 63; refine (Tryd.strconv_ParseUint_10_at64_range_var s (by omega) hp tp p _ (var_kept range_glob hvar hb)).mono ?_; rintro e w2 ⟨N, rfl, _, _, hw2⟩))
      go_ret2
      exact ⟨by rw [← hS.out.1, ← hS.out.2]; rfl, hb.trans (hw2.mono hb.size)⟩
end Go.Proofs.YtbopikeoaokdpaaDoor
