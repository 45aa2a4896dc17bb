/- Package dec: OfInt, ToInt: walked. -/
import Derived.Test.YtbopikeoaokdpaaDoorNatV
import Derived.Test.YtbopikeoaokdpaaDoorDecG
namespace Go.Proofs.YtbopikeoaokdpaaDoor
open Go.RowKit
attribute [local go_sem] Oper.semAt_some

set_option maxRecDepth 100000 in
set_option maxHeartbeats 4000000 in
theorem ofInt_calls (neg : Bool) (n : Nat) (hn : n < 18446744073709551616) (w : World) (hT : Tabs w) :
    Calls Tryd.prog 17 #[.bool neg, .int .u64 n] w fun e w' => e = .returned (mk neg (Lib.decDigits n) 0).1.val ∧ Below w.heap.size w w' := by
  have hof := fun W h => natOf_calls n hn W h
  obtain ⟨q, hq⟩ : ∃ q : ByteArray, (⟨(Lib.decDigits n).toArray⟩ : ByteArray) = q := ⟨_, rfl⟩
  have hqx : tx q = Lib.decDigits n := by rw [← hq]; exact tx_B _
  have hqs : q.size ≤ 20 := by rw [← txs_len, hqx, Lib.decDigits_length]; exact rdig_lt 19 n (by omega)
  rw [hq] at hof
  have hmake := fun W => decMake_calls neg q 0 ⟨by omega, by omega⟩ (by omega) W
  rw [hqx] at hmake
  obtain ⟨dn, dd, dx, hd⟩ : ∃ dn dd dx, (mk neg (Lib.decDigits n) 0).1 = ⟨dn, dd, dx⟩ := ⟨_, _, _, rfl⟩
  obtain ⟨er, her⟩ : ∃ er, (mk neg (Lib.decDigits n) 0).2 = er := ⟨_, rfl⟩
  obtain ⟨ds, hds⟩ : ∃ ds, B dd = ds := ⟨_, rfl⟩
  rw [hd, her] at hmake
  have hmake' : ∀ W, Calls Tryd.prog 15 #[.bool neg, .string q, .int .i64 0] W fun e w' => e = .returned (.tuple #[.agg #[.bool dn, .string ds, .int .i64 dx], .int .i64 er]) ∧ Below W.heap.size W w' := by rw [← hds]; exact hmake
  have HR := hid (show (mk neg (Lib.decDigits n) 0).1.val = .agg #[.bool dn, .string ds, .int .i64 dx] by rw [hd, ← hds]; rfl)
  have hC := Cls.new w 24 [.bool false, .string ⟨#[]⟩, .int .i64 0]
  have hA := below_alloc w (.cells #[.bool false, .string ⟨#[]⟩, .int .i64 0] 24)
  have hT0 := hT.below hA
  clear hmake hd her hds hq hqx hn
  go_enter Tryd.func17, Tryd.ntmps17
  go_wp2_with fail
  refine (hof _ hT0).mono ?_
  rintro e w1 ⟨rfl, hb1⟩
  have hW1 := hA.trans (hb1.mono hA.size)
  have hC1 := hC.below hb1
  go_wp2_with fail
  refine (hmake' _).mono ?_
  rintro e w2 ⟨rfl, hb2⟩
  have hW2 := hW1.trans (hb2.mono hW1.size)
  have hC2 := hC1.below hb2
  have hlt : w.heap.size < w2.heap.size := hC2.lt
  have hE := Cls.new w2 24 [.bool dn, .string ds, .int .i64 dx]
  have c0 := hC2.cell 0 rfl
  have c1 := hC2.cell 1 rfl
  have c2 := hC2.cell 2 rfl
  have z0 := hC2.frozen 0
  have z1 := hC2.frozen 1
  have z2 := hC2.frozen 2
  have d0 := hE.cell 0 rfl
  have d1 := hE.cell 1 rfl
  have d2 := hE.cell 2 rfl
  go_wp2
  have hF := (((hC2.set 0 (.bool dn)).set 1 (.string ds)).set 2 (.int .i64 dx)).alloc (.cells #[.bool dn, .string ds, .int .i64 dx] 24)
  have f0 := hF.cell 0 rfl
  have f1 := hF.cell 1 rfl
  have f2 := hF.cell 2 rfl
  have hbG := ((hW2.setCell (p := ⟨w.heap.size, 0, none⟩) (Nat.le_refl _) (.bool dn)).setCell (p := ⟨w.heap.size, 1, none⟩) (Nat.le_refl _) (.string ds)).setCell (p := ⟨w.heap.size, 2, none⟩) (Nat.le_refl _) (.int .i64 dx)
  have hbF := hbG.alloc hbG.size (.cells #[.bool dn, .string ds, .int .i64 dx] 24)
  exact bodyPost_ret (v := .agg #[.bool dn, .string ds, .int .i64 dx]) (by simp [results, Tryd.results17, go_sem, f0, f1, f2]) rfl ⟨by rw [HR.out], hbF⟩

/-- the whole number of a decimal. -/
def tiT (d : D) : ByteArray := B (d.dg ++ List.replicate d.ex.toNat 48)
def tiG (d : D) : Bool := decR d && (decide (0 ≤ d.ex) && decide (d.ex ≤ 20))
def tiB (d : D) : Bool := tiG d && toB (tiT d)
def tiN (d : D) : Nat := if tiG d then toN (tiT d) else 0

set_option maxRecDepth 100000 in
set_option maxHeartbeats 4000000 in
theorem toInt_calls (n : Bool) (s : ByteArray) (x : Int) (hs : s.size ≤ 140737488355328) (w : World) (hT : Tabs w) :
    Calls Tryd.prog 18 #[.agg #[.bool n, .string s, .int .i64 x]] w fun e w' => e = .returned (.tuple #[.bool (tiB ⟨n, tx s, x⟩ && n), .int .u64 (tiN ⟨n, tx s, x⟩), .bool (tiB ⟨n, tx s, x⟩)]) ∧ Below w.heap.size w w' := by
  have hC := Cls.new w 24 [.bool n, .string s, .int .i64 x]
  have hA := below_alloc w (.cells #[.bool n, .string s, .int .i64 x] 24)
  have hright := fun W => decRight_calls n s x hs W
  cases hG : tiG ⟨n, tx s, x⟩ with
  | false =>
    have HR := hid (show tiB ⟨n, tx s, x⟩ = false ∧ tiN ⟨n, tx s, x⟩ = 0 by unfold tiB tiN; rw [hG]; exact ⟨rfl, rfl⟩)
    cases hr : decR ⟨n, tx s, x⟩ with
    | false =>
      rw [hr] at hright
      clear hr hG
      go_enter Tryd.func18, Tryd.ntmps18
      go_wp2_with (go_at_call 14; refine (hright _).mono ?_; rintro e w1 ⟨rfl, hb1⟩)
      go_ret3
      exact ⟨by rw [HR.out.1, HR.out.2]; rfl, hA.trans (hb1.mono hA.size)⟩
    | true =>
      rw [hr] at hright
      have hcase : x < 0 ∨ (¬ x < 0 ∧ 20 < x) := by
        unfold tiG at hG
        rw [hr, Bool.true_and, Bool.and_eq_false_iff, decide_eq_false_iff_not, decide_eq_false_iff_not] at hG
        change ¬ 0 ≤ x ∨ ¬ x ≤ 20 at hG
        omega
      clear hr hG
      rcases hcase with h1 | ⟨h1, h2⟩
      all_goals (
        go_enter Tryd.func18, Tryd.ntmps18
        go_wp2_with (go_at_call 14; refine (hright _).mono ?_; rintro e w1 ⟨rfl, hb1⟩; have hC1 := hC.below hb1; have c2 := hC1.cell 2 rfl)
        go_ret3
        exact ⟨by rw [HR.out.1, HR.out.2]; rfl, hA.trans (hb1.mono hA.size)⟩)
  | true =>
    have hG' := hG
    unfold tiG at hG'
    rw [Bool.and_eq_true, Bool.and_eq_true, decide_eq_true_eq, decide_eq_true_eq] at hG'
    obtain ⟨hr, hx0, hx2⟩ := hG'
    change 0 ≤ x at hx0
    change x ≤ 20 at hx2
    rw [hr] at hright
    have hbd := (decR_bounds hr).1
    rw [txs_len] at hbd
    obtain ⟨c, rfl⟩ := Int.eq_ofNat_of_zero_le hx0
    have hit := fun W => repeat_calls c (by omega) W
    obtain ⟨q, hq⟩ : ∃ q, B (List.replicate c (48 : UInt8)) = q := ⟨_, rfl⟩
    have hqs : q.size ≤ 20 := by rw [← hq, size_B, List.length_replicate]; omega
    rw [hq] at hit
    have hsq : tiT ⟨n, tx s, (c : Int)⟩ = s ++ q := by
      rw [← B_tx (s ++ q), tx_app, ← hq, tx_B]; rfl
    have hsqs : (s ++ q).size ≤ 120 := by rw [size_app]; omega
    have hto := fun W h => natTo_calls (s ++ q) (by omega) W h
    have hB : tiB ⟨n, tx s, (c : Int)⟩ = toB (s ++ q) := by unfold tiB; rw [hG, hsq]; rfl
    have hN : tiN ⟨n, tx s, (c : Int)⟩ = toN (s ++ q) := by unfold tiN; rw [hG, hsq]; rfl
    obtain ⟨tb, htb⟩ : ∃ tb, toB (s ++ q) = tb := ⟨_, rfl⟩
    obtain ⟨tn, htn⟩ : ∃ tn, toN (s ++ q) = tn := ⟨_, rfl⟩
    rw [htb, htn] at hto
    rw [htb] at hB
    rw [htn] at hN
    have HR := hid (And.intro hB hN)
    have hl1 := hC.lt
    have h1 : ¬ (c : Int) < 0 := by omega
    have h2 : ¬ (20 : Int) < (c : Int) := by omega
    clear hr hG hq hsq hB hN htb htn hsqs
    cases tb
    all_goals (
      go_enter Tryd.func18, Tryd.ntmps18
      go_wp2_with fail
      refine (hright _).mono ?_
      rintro e w1 ⟨rfl, hb1⟩
      have hC1 := hC.below hb1
      have hW1 := hA.trans (hb1.mono hA.size)
      have c0 := hC1.cell 0 rfl
      have c1 := hC1.cell 1 rfl
      have c2 := hC1.cell 2 rfl
      have HT1 := hid (hT.below hW1)
      go_wp2
      go_region_with (first
        | (go_at_call 30; refine (hit _).mono ?_; rintro e w4 ⟨rfl, hb4⟩; have hC4 : Cls w4 w.heap.size 24 _ := (hb4.block w.heap.size hC1.lt).trans hC1; have e0 := hC4.cell 0 rfl; have e1 := hC4.cell 1 rfl; have e2 := hC4.cell 2 rfl; have hW4 : Below w.heap.size w w4 := hW1.drew.trans (hb4.mono hW1.drew.size))
        | (go_at_call 41; refine (hto _ (hT.below hW4)).mono ?_; rintro e w5 ⟨rfl, hb5⟩; have hC5 := hC4.below hb5; have k0 := hC5.cell 0 rfl))
      all_goals (
        go_wp2
        go_ret3
        exact ⟨by rw [HR.out.1, HR.out.2]; rfl, hW4.trans (hb5.mono hW4.size)⟩))
end Go.Proofs.YtbopikeoaokdpaaDoor
