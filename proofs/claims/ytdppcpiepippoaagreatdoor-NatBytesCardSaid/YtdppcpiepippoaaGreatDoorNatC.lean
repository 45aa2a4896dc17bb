/- Package nat: text, ends, compare, div. -/
import Derived.Test.YtdppcpiepippoaaGreatDoorNatB
namespace Go.Proofs.YtdppcpiepippoaaGreatDoor
open Go.RowKit Go.Shelf
attribute [local go_sem] Oper.semAt_some

set_option maxRecDepth 100000 in
theorem text_nil (a : Option Addr) (cap : Nat) (w : World) :
    Calls Tryz.prog 44 #[.slice a 0 cap] w fun e w' => e = .returned (.string ⟨#[48]⟩) ∧ Below w.heap.size w w' := by
  go_enter Tryz.func44, Tryz.ntmps44
  go_wp2
  go_ret
  exact ⟨rfl, below_alloc _ _⟩

/-- text: the digits of a number's limbs. -/
theorem text_calls (v : Value) (n : Nat) (hmax : (lim n).length ≤ 1000000) (w : World) (hT : Tabs w) (hL : Lim w v (lim n)) :
    Calls Tryz.prog 44 #[v] w fun e w' => e = .returned (.string ⟨(Lib.decDigits n).toArray⟩) ∧ Below w.heap.size w w' := by
  have hL' := hL
  obtain ⟨a, cap, rfl, h2, h3, h4⟩ := hL
  by_cases h0 : n = 0
  · subst h0
    rw [show (lim 0).length = 0 by rw [lim_zero]; rfl, dec_small (by omega)]
    exact text_nil a cap w
  · have h := text_some a cap (lim n) (fun e => h0 (lim_eq_nil.1 e)) (lim_grp n) (fun k hk => lim_last hk) hmax w hT hL'
    rwa [val_lim] at h


set_option maxRecDepth 100000 in
theorem ends_calls (v : Value) (xs : List Nat) (hg : Grp xs) (hmax : (lim (val xs)).length ≤ 1000000) (w : World) (hT : Tabs w) (hL : Lim w v xs) :
    Calls Tryz.prog 32 #[v] w fun e w' => e = .returned (.tuple #[.string ⟨(fitS (val xs)).toArray⟩, .int .i64 (fitE (val xs))]) ∧ Below w.heap.size w w' := by
  obtain ⟨sy, hsy⟩ : ∃ sy : ByteArray, (⟨(Lib.decDigits (val xs)).toArray⟩ : ByteArray) = sy := ⟨_, rfl⟩
  have hsz : sy.size = Lib.nDigits (val xs) := by rw [← hsy, ← Lib.decDigits_length]; simp [ByteArray.size]
  have htext : ∀ v', Lim w v' (lim (val xs)) → Calls Tryz.prog 44 #[v'] w fun e w' => e = .returned (.string sy) ∧ Below w.heap.size w w' := fun v' h => by
    rw [← hsy]; exact text_calls v' (val xs) hmax w hT h
  have htrim := trim_calls v xs hg w hL
  by_cases h : Lib.nDigits (val xs) ≤ 400
  · have hf : Hid (fitS (val xs) = Lib.decDigits (val xs) ∧ fitE (val xs) = 0 ∧ (⟨(Lib.decDigits (val xs)).toArray⟩ : ByteArray) = sy) := ⟨if_pos h, if_pos h, hsy⟩
    have hle : ¬ (400 : Int) < (sy.size : Int) := by omega
    clear hsy hsz h
    go_enter Tryz.func32, Tryz.ntmps32
    go_wp2_with fail
    refine htrim.mono ?_
    rintro e w' ⟨⟨v', rfl, hv'⟩, rfl⟩
    go_wp2_with fail
    refine (htext v' hv').mono ?_
    rintro e w' ⟨rfl, hb⟩
    go_wp2
    go_ret2
    exact ⟨ret_val (by rw [hf.out.1, hf.out.2.1, hf.out.2.2]; rfl), hb⟩
  · have hf : Hid (fitS (val xs) = [] ∧ fitE (val xs) = 11) := ⟨if_neg h, if_neg h⟩
    have hle : (400 : Int) < (sy.size : Int) := by omega
    clear hsy hsz h
    go_enter Tryz.func32, Tryz.ntmps32
    go_wp2_with fail
    refine htrim.mono ?_
    rintro e w' ⟨⟨v', rfl, hv'⟩, rfl⟩
    go_wp2_with fail
    refine (htext v' hv').mono ?_
    rintro e w' ⟨rfl, hb⟩
    go_wp2
    go_ret2
    exact ⟨ret_val (by rw [hf.out.1, hf.out.2]; rfl), hb⟩

end Go.Proofs.YtdppcpiepippoaaGreatDoor
