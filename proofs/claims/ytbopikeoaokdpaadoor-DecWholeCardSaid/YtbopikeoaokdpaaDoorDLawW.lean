/- The statement DecWhole (targumlaw04): walked. -/
import Derived.Test.YtbopikeoaokdpaaDoorDLawC
import Derived.Test.YtbopikeoaokdpaaDoorDecJ
import Derived.Test.YtbopikeoaokdpaaDoorRDecB
namespace Go.Proofs.YtbopikeoaokdpaaDoor
open Go.RowKit Go.Shelf
attribute [local go_sem] Oper.semAt_some

theorem strip_split (l : List UInt8) : l = stripR l ++ List.replicate (l.length - (stripR l).length) 48 := by
  have h1 : l.reverse = l.reverse.takeWhile (· == 48) ++ l.reverse.dropWhile (· == 48) := (List.takeWhile_append_dropWhile).symm
  have h2 : ∀ m : List UInt8, m.takeWhile (· == 48) = List.replicate (m.takeWhile (· == 48)).length 48 := fun m => by
    rw [List.eq_replicate_iff]
    exact ⟨rfl, fun c hc => by
      have := List.all_takeWhile (l := m) (p := (· == 48))
      rw [List.all_eq_true] at this
      exact beq_iff_eq.1 (this c hc)⟩
  have h3 := congrArg List.reverse h1
  rw [List.reverse_reverse, List.reverse_append] at h3
  have h4 : l = stripR l ++ (l.reverse.takeWhile (· == 48)).reverse := h3
  have h5 := congrArg List.length h4
  rw [List.length_append, List.length_reverse] at h5
  rw [h2, List.reverse_replicate] at h4
  rw [show l.length - (stripR l).length = (l.reverse.takeWhile (· == 48)).length by omega]
  exact h4
theorem stripR_last (l : List UInt8) : (stripR l).getLast? ≠ some 48 := by
  unfold stripR
  rw [List.getLast?_reverse]
  exact stripL_head l.reverse
theorem stripL_id {l : List UInt8} (h : l.head? ≠ some 48) : stripL l = l := by
  have := drop_zeros 0 l h
  exact this
theorem dec_head1 {n : Nat} (h : 0 < n) : (Lib.decDigits n).head? ≠ some 48 := by
  by_cases h10 : n < 10
  · rw [dec_small h10, List.head?_cons]
    intro e
    have := congrArg UInt8.toNat (Option.some.inj e)
    rw [byte_toNat (by omega)] at this
    have h48 : (48 : UInt8).toNat = 48 := rfl
    omega
  · exact dec_head (by omega)

/-- a whole number's decimal. -/
theorem whole_plain (neg : Bool) (n : Nat) (hn : n < 18446744073709551616) (d : D) (hd : (mk neg (Lib.decDigits n) 0).1 = d) :
    decR d = true ∧ 0 ≤ d.ex ∧ d.ex ≤ 20 ∧ d.dg ++ List.replicate d.ex.toNat 48 = Lib.decDigits n ∧ d.neg = (neg && decide (0 < n)) := by
  subst hd
  rcases Nat.eq_zero_or_pos n with h0 | h0
  · subst h0
    rw [show Lib.decDigits 0 = [48] from by rw [dec_small (by omega)]; rfl]
    cases neg <;> exact ⟨rfl, by decide, by decide, rfl, rfl⟩
  · have hh := dec_head1 h0
    have hne := dec_ne_nil n
    have hdg := dec_isDg n
    have hlen : (Lib.decDigits n).length ≤ 20 := by rw [Lib.decDigits_length]; exact rdig_lt 19 n (by omega)
    obtain ⟨l, hl⟩ : ∃ l, Lib.decDigits n = l := ⟨_, rfl⟩
    rw [hl] at hh hne hdg hlen ⊢
    have hsL := stripL_id hh
    have hsp := strip_split l
    have hle := stripR_le l
    have hsn := stripR_ne hne hh
    have hsl := List.length_pos_iff.2 hsn
    have hok : mkOk l 0 = true := by
      unfold mkOk
      rw [decide_eq_true hne, decide_eq_true (show l.length ≤ 400 by omega), show l.all isDg = true from List.all_eq_true.2 hdg]
      rfl
    have hhd : (stripR l).head? = l.head? := by
      conv => rhs; rw [hsp]
      rw [head_app hsn]
    have hR : decR (mkD neg l 0) = true := by
      unfold mkD decR
      rw [hsL]
      have hn48 : ¬ stripR l = [48] := by intro e; rw [e] at hhd; exact hh (by rw [← hhd]; rfl)
      show (if stripR l = [48] then _ else _) = true
      rw [if_neg hn48]
      show (isRt (stripR l) && (decide ((stripR l).length ≤ 100) && (decide (-100 ≤ (0 : Int) + l.length - (stripR l).length) && decide ((0 : Int) + l.length - (stripR l).length ≤ 100) && !((stripR l).getLast? == some 48)))) = true
      rw [isRt_main (by omega) (by omega) (by rw [hhd]; exact fun h => hh h.2), show (stripR l).all isDg = true from List.all_eq_true.2 (fun c hc => hdg c (by rw [hsp]; exact List.mem_append_left _ hc)), decide_eq_true (show (stripR l).length ≤ 100 by omega), decide_eq_true (show (-100 : Int) ≤ (0 : Int) + l.length - (stripR l).length by omega), decide_eq_true (show (0 : Int) + l.length - (stripR l).length ≤ 100 by omega), show ((stripR l).getLast? == some 48) = false from beq_eq_false_iff_ne.2 (stripR_last l)]
      rfl
    have hm : mk neg l 0 = (mkD neg l 0, 0) := by
      unfold mk
      rw [if_pos hok, if_neg (by rw [hsL]; exact hne), if_pos hR]
    rw [hm]
    refine ⟨hR, ?_, ?_, ?_, ?_⟩
    · show (0 : Int) ≤ 0 + (stripL l).length - (stripR (stripL l)).length
      rw [hsL]; omega
    · show (0 : Int) + (stripL l).length - (stripR (stripL l)).length ≤ 20
      rw [hsL]; omega
    · show stripR (stripL l) ++ List.replicate ((0 : Int) + (stripL l).length - (stripR (stripL l)).length).toNat 48 = l
      rw [hsL, show ((0 : Int) + l.length - (stripR l).length).toNat = l.length - (stripR l).length by omega]
      exact hsp.symm
    · show neg = _
      rw [decide_eq_true h0, Bool.and_true]

theorem whole_all (neg : Bool) (n : Nat) (hn : n < 18446744073709551616) (d : D) (hd : (mk neg (Lib.decDigits n) 0).1 = d) :
    tiB d = true ∧ tiN d = n ∧ d.neg = (neg && decide (0 < n)) ∧ fmtE d = 0 ∧ fmtL d = (if neg && decide (0 < n) then [45] else []) ++ Lib.decDigits n := by
  obtain ⟨h1, h2, h3, h4, h5⟩ := whole_plain neg n hn d hd
  have hG : tiG d = true := by unfold tiG; rw [h1, decide_eq_true h2, decide_eq_true h3]; rfl
  have hlen : (Lib.decDigits n).length ≤ 20 := by rw [Lib.decDigits_length]; exact rdig_lt 19 n (by omega)
  have hrt : isRt (Lib.decDigits n) = true := (isRt_iff _).2 ⟨by rw [nv_dec], by omega⟩
  have hT : tx (tiT d) = Lib.decDigits n := by unfold tiT; rw [tx_B, h4]
  refine ⟨?_, ?_, h5, ?_, ?_⟩
  · unfold tiB toB
    rw [hG, hT, hrt, nv_dec, decide_eq_true hn]; rfl
  · unfold tiN toN
    rw [hG, if_pos rfl, hT, hrt, nv_dec, decide_eq_true hn]; rfl
  · unfold fmtE; rw [h1]; rfl
  · unfold fmtL
    rw [h1, if_pos rfl, h5]
    unfold fmtB
    rw [if_pos (show (decide (-20 ≤ d.ex) && decide (d.ex ≤ 20)) = true by rw [Bool.and_eq_true, decide_eq_true_eq, decide_eq_true_eq]; omega), if_pos h2, h4]

set_option maxRecDepth 100000 in
set_option maxHeartbeats 4000000 in
theorem whole_law (neg : Bool) (m : Nat) (hm : m < 18446744073709551616) (w : World) (hT : Tabs w) :
    Calls Tryd.prog 7 #[.bool neg, .int .u64 m] w fun e w' => e = .returned (.bool true) ∧ Below w.heap.size w w' := by
  have hi := fun W h => ofInt_calls neg m hm W h
  obtain ⟨dn, dd, dx, hd⟩ : ∃ dn dd dx, (mk neg (Lib.decDigits m) 0).1 = ⟨dn, dd, dx⟩ := ⟨_, _, _, rfl⟩
  obtain ⟨g1, g2, g3, g4, g5⟩ := whole_all neg m hm _ hd
  have hdl : dd.length ≤ 100 := (decR_bounds (whole_plain neg m hm _ hd).1).1
  obtain ⟨ds, hds⟩ : ∃ ds, B dd = ds := ⟨_, rfl⟩
  have hdsx : tx ds = dd := by rw [← hds, tx_B]
  have hdss : ds.size ≤ 100 := by rw [← txs_len, hdsx]; exact hdl
  rw [hd] at hi
  have hi' : ∀ W, Tabs W → Calls Tryd.prog 17 #[.bool neg, .int .u64 m] W fun e w' => e = .returned (.agg #[.bool dn, .string ds, .int .i64 dx]) ∧ Below W.heap.size W w' := by rw [← hds]; exact hi
  have ht := fun W h => toInt_calls dn ds dx (by omega) W h
  have hf := fun W h => format_calls dn ds dx (by omega) W h
  rw [hdsx] at ht hf
  rw [g1, g2] at ht
  rw [g4, g5] at hf
  change dn = _ at g3
  have ho := fun W => rOf_calls m hm W
  obtain ⟨q, hq⟩ : ∃ q : ByteArray, (⟨(Lib.decDigits m).toArray⟩ : ByteArray) = q := ⟨_, rfl⟩
  have hqx : tx q = Lib.decDigits m := by rw [← hq]; exact tx_B _
  have hqs : q.size ≤ 20 := by rw [← txs_len, hqx, Lib.decDigits_length]; exact rdig_lt 19 m (by omega)
  rw [hq] at ho
  have hmi : (0 : Int) ≤ (m : Int) := by omega
  clear hi hd g1 g2 g4 g5 hdl hds hq
  have hcase : (dn = false ∧ (neg = false ∨ (neg = true ∧ m = 0))) ∨ (dn = true ∧ neg = true ∧ 0 < m) := by
    rw [g3]
    cases neg
    · exact .inl ⟨rfl, .inl rfl⟩
    · rcases Nat.eq_zero_or_pos m with h | h
      · exact .inl ⟨by rw [h]; rfl, .inr ⟨rfl, h⟩⟩
      · exact .inr ⟨by rw [decide_eq_true h]; rfl, rfl, h⟩
  rcases hcase with ⟨rfl, rfl | ⟨rfl, h0⟩⟩ | ⟨rfl, rfl, h⟩
  · have hf' : ∀ W, Tabs W → Calls Tryd.prog 13 #[.agg #[.bool false, .string ds, .int .i64 dx]] W fun e w' => e = .returned (.tuple #[.string q, .int .i64 0]) ∧ Below W.heap.size W w' := fun W hW => by
      have h1 := hf W hW
      rw [show B ((if (false && decide (0 < m)) = true then [45] else []) ++ Lib.decDigits m) = q from by rw [← hqx]; exact B_tx q] at h1
      exact h1
    clear hf hqx hdsx g3
    go_enter Tryd.func7, Tryd.ntmps7
    go_wp2_with fail
    refine (dshown_calls w hT).mono ?_
    rintro e w1 ⟨rfl, hb1⟩
    have hW1 := hb1
    go_wp2_with fail
    refine (hi' _ (hT.below hW1)).mono ?_
    rintro e w2 ⟨rfl, hb2⟩
    have hW2 := hW1.trans (hb2.mono hW1.size)
    have hA3 := Cls.new w2 24 [.bool false, .string ds, .int .i64 dx]
    have hW3 := hW2.alloc hW2.size (.cells #[.bool false, .string ds, .int .i64 dx] 24)
    have A_0 := hA3.cell 0 rfl
    have A_1 := hA3.cell 1 rfl
    have A_2 := hA3.cell 2 rfl
    go_wp2_with fail
    generalize w2.alloc (.cells #[.bool false, .string ds, .int .i64 dx] 24) = V4 at *
    clear A_0 A_1 A_2
    refine (ht _ (hT.below hW3)).mono ?_
    rintro e w5 ⟨rfl, hb5⟩
    have hW5 := hW3.trans (hb5.mono hW3.size)
    have hA5 := hA3.below hb5
    have A_0 := hA5.cell 0 rfl
    have A_1 := hA5.cell 1 rfl
    have A_2 := hA5.cell 2 rfl
    go_wp2_with fail
    refine (hf' _ (hT.below hW5)).mono ?_
    rintro e w6 ⟨rfl, hb6⟩
    have hW6 := hW5.trans (hb6.mono hW5.size)
    have hA6 := hA5.below hb6
    clear A_0 A_1 A_2
    have A_0 := hA6.cell 0 rfl
    have A_1 := hA6.cell 1 rfl
    have A_2 := hA6.cell 2 rfl
    go_wp2_with fail
    refine (ho _).mono ?_
    rintro e w7 ⟨rfl, hb7⟩
    have hW7 := hW6.trans (hb7.mono hW6.size)
    have hA7 := hA6.below hb7
    clear A_0 A_1 A_2
    have A_0 := hA7.cell 0 rfl
    have A_1 := hA7.cell 1 rfl
    have A_2 := hA7.cell 2 rfl
    go_wp2
    go_ret
    exact ⟨rfl, hW7⟩
  · have hf' : ∀ W, Tabs W → Calls Tryd.prog 13 #[.agg #[.bool false, .string ds, .int .i64 dx]] W fun e w' => e = .returned (.tuple #[.string q, .int .i64 0]) ∧ Below W.heap.size W w' := fun W hW => by
      have h1 := hf W hW
      rw [show B ((if (true && decide (0 < m)) = true then [45] else []) ++ Lib.decDigits m) = q from by rw [decide_eq_false (show ¬ 0 < m by omega), ← hqx]; exact B_tx q] at h1
      exact h1
    clear hf hqx hdsx g3
    have hmz : ¬ (0 : Int) < (m : Int) := by omega
    clear h0
    go_enter Tryd.func7, Tryd.ntmps7
    go_wp2_with fail
    refine (dshown_calls w hT).mono ?_
    rintro e w1 ⟨rfl, hb1⟩
    have hW1 := hb1
    go_wp2_with fail
    refine (hi' _ (hT.below hW1)).mono ?_
    rintro e w2 ⟨rfl, hb2⟩
    have hW2 := hW1.trans (hb2.mono hW1.size)
    have hA3 := Cls.new w2 24 [.bool false, .string ds, .int .i64 dx]
    have hW3 := hW2.alloc hW2.size (.cells #[.bool false, .string ds, .int .i64 dx] 24)
    have A_0 := hA3.cell 0 rfl
    have A_1 := hA3.cell 1 rfl
    have A_2 := hA3.cell 2 rfl
    go_wp2_with fail
    generalize w2.alloc (.cells #[.bool false, .string ds, .int .i64 dx] 24) = V4 at *
    clear A_0 A_1 A_2
    refine (ht _ (hT.below hW3)).mono ?_
    rintro e w5 ⟨rfl, hb5⟩
    have hW5 := hW3.trans (hb5.mono hW3.size)
    have hA5 := hA3.below hb5
    have A_0 := hA5.cell 0 rfl
    have A_1 := hA5.cell 1 rfl
    have A_2 := hA5.cell 2 rfl
    go_wp2_with fail
    refine (hf' _ (hT.below hW5)).mono ?_
    rintro e w6 ⟨rfl, hb6⟩
    have hW6 := hW5.trans (hb6.mono hW5.size)
    have hA6 := hA5.below hb6
    clear A_0 A_1 A_2
    have A_0 := hA6.cell 0 rfl
    have A_1 := hA6.cell 1 rfl
    have A_2 := hA6.cell 2 rfl
    go_wp2_with fail
    refine (ho _).mono ?_
    rintro e w7 ⟨rfl, hb7⟩
    have hW7 := hW6.trans (hb7.mono hW6.size)
    have hA7 := hA6.below hb7
    clear A_0 A_1 A_2
    have A_0 := hA7.cell 0 rfl
    have A_1 := hA7.cell 1 rfl
    have A_2 := hA7.cell 2 rfl
    go_wp2
    go_ret
    exact ⟨rfl, hW7⟩
  · have hf' : ∀ W, Tabs W → Calls Tryd.prog 13 #[.agg #[.bool true, .string ds, .int .i64 dx]] W fun e w' => e = .returned (.tuple #[.string (⟨#[45]⟩ ++ q), .int .i64 0]) ∧ Below W.heap.size W w' := fun W hW => by
      have h1 := hf W hW
      rw [show B ((if (true && decide (0 < m)) = true then [45] else []) ++ Lib.decDigits m) = ⟨#[45]⟩ ++ q from by rw [decide_eq_true h, ← hqx, ← B_tx (⟨#[45]⟩ ++ q), tx_app]; rfl] at h1
      exact h1
    clear hf hqx hdsx g3
    have hmz : (0 : Int) < (m : Int) := by omega
    go_enter Tryd.func7, Tryd.ntmps7
    go_wp2_with fail
    refine (dshown_calls w hT).mono ?_
    rintro e w1 ⟨rfl, hb1⟩
    have hW1 := hb1
    go_wp2_with fail
    refine (hi' _ (hT.below hW1)).mono ?_
    rintro e w2 ⟨rfl, hb2⟩
    have hW2 := hW1.trans (hb2.mono hW1.size)
    have hA3 := Cls.new w2 24 [.bool true, .string ds, .int .i64 dx]
    have hW3 := hW2.alloc hW2.size (.cells #[.bool true, .string ds, .int .i64 dx] 24)
    have A_0 := hA3.cell 0 rfl
    have A_1 := hA3.cell 1 rfl
    have A_2 := hA3.cell 2 rfl
    go_wp2_with fail
    generalize w2.alloc (.cells #[.bool true, .string ds, .int .i64 dx] 24) = V4 at *
    clear A_0 A_1 A_2
    refine (ht _ (hT.below hW3)).mono ?_
    rintro e w5 ⟨rfl, hb5⟩
    have hW5 := hW3.trans (hb5.mono hW3.size)
    have hA5 := hA3.below hb5
    have A_0 := hA5.cell 0 rfl
    have A_1 := hA5.cell 1 rfl
    have A_2 := hA5.cell 2 rfl
    go_wp2_with fail
    refine (hf' _ (hT.below hW5)).mono ?_
    rintro e w6 ⟨rfl, hb6⟩
    have hW6 := hW5.trans (hb6.mono hW5.size)
    have hA6 := hA5.below hb6
    clear A_0 A_1 A_2
    have A_0 := hA6.cell 0 rfl
    have A_1 := hA6.cell 1 rfl
    have A_2 := hA6.cell 2 rfl
    go_wp2_with fail
    refine (ho _).mono ?_
    rintro e w7 ⟨rfl, hb7⟩
    have hW7 := hW6.trans (hb7.mono hW6.size)
    have hA7 := hA6.below hb7
    clear A_0 A_1 A_2
    have A_0 := hA7.cell 0 rfl
    have A_1 := hA7.cell 1 rfl
    have A_2 := hA7.cell 2 rfl
    go_wp2
    go_ret
    exact ⟨rfl, hW7⟩
end Go.Proofs.YtbopikeoaokdpaaDoor
